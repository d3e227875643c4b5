/- Public suffixes, plain: what is above, which rule counts, who owns. -/
import Derived.Test.YtkgdkpiacencjaaDoorHostP
import Derived.Test.YtkgdkpiacencjaaDoorTy
namespace Go.Proofs.YtkgdkpiacencjaaDoor.SufP
open HostP WordP WordS Abs
deriving instance DecidableEq for Suffix

theorem find_idx {α : Type} {p : α → Bool} : ∀ {xs : List α} {b : α}, xs.find? p = some b ↔ ∃ i : Nat, xs[i]? = some b ∧ p b = true ∧ ∀ (j : Nat) c, j < i → xs[j]? = some c → p c = false
  | [], b => by simp
  | x :: xs, b => by
    rw [List.find?_cons]
    cases h : p x with
    | true =>
      constructor
      · intro e; cases e
        exact ⟨0, rfl, h, fun j c hj => by omega⟩
      · rintro ⟨i, h1, h2, h3⟩
        rcases i with _ | i
        · exact h1
        · have := h3 0 x (by omega) rfl
          rw [h] at this; cases this
    | false =>
      show List.find? p xs = some b ↔ _
      rw [find_idx (xs := xs)]
      constructor
      · rintro ⟨i, h1, h2, h3⟩
        refine ⟨i + 1, by simpa using h1, h2, fun j c hj hc => ?_⟩
        rcases j with _ | j
        · simp at hc; subst hc; exact h
        · exact h3 j c (by omega) (by simpa using hc)
      · rintro ⟨i, h1, h2, h3⟩
        rcases i with _ | i
        · simp at h1; subst h1; rw [h] at h2; cases h2
        · exact ⟨i, by simpa using h1, h2, fun j c hj hc => h3 (j + 1) c (by omega) (by simpa using hc)⟩
theorem find_no {α : Type} {p : α → Bool} {xs : List α} : xs.find? p = none ↔ ∀ (j : Nat) c, xs[j]? = some c → p c = false := by
  rw [List.find?_eq_none]
  constructor
  · intro h j c hc
    simpa using h c (List.mem_of_getElem? hc)
  · intro h c hc
    obtain ⟨j, hj⟩ := List.mem_iff_getElem?.1 hc
    simpa using h j c hj
theorem find_on {α : Type} {p : α → Bool} {xs : List α} {k : Nat} {d : α} (h : xs[k]? = some d) : (xs.take (k + 1)).find? p = ((xs.take k).find? p).or (if p d then some d else none) := by
  obtain ⟨hk, rfl⟩ := List.getElem?_eq_some_iff.1 h
  rw [List.take_succ_eq_append_getElem hk, List.find?_append]
  congr 1
  rw [List.find?_cons]
  cases p xs[k] <;> rfl

/-! ### What is above -/
def up : List UInt8 → List UInt8
  | [] => []
  | c :: r => if c = 46 then r else up r
theorem up_none {l : List UInt8} (h : l.contains 46 = false) : up l = [] := by
  induction l with
  | nil => rfl
  | cons c r ih =>
    simp only [List.contains_cons, Bool.or_eq_false_iff, beq_eq_false_iff_ne] at h
    unfold up
    rw [if_neg (fun e => h.1 e.symm), ih h.2]
theorem up_at {a r : List UInt8} (h : a.contains 46 = false) : up (a ++ 46 :: r) = r := by
  induction a with
  | nil => simp [up]
  | cons c a ih =>
    simp only [List.contains_cons, Bool.or_eq_false_iff, beq_eq_false_iff_ne] at h
    rw [List.cons_append, up, if_neg (fun e => h.1 e.symm), ih h.2]
theorem after_up (l : List UInt8) : after l = if l.contains 46 then up l :: after (up l) else [] := by
  rcases first_at 46 l with h | ⟨a, r, rfl, h⟩
  · rw [h, after_none l h]; rfl
  · rw [after_at a r h, up_at h, if_pos (by simp)]
theorem up_len (l : List UInt8) : (up l).length ≤ l.length := by
  induction l with
  | nil => exact Nat.le_refl _
  | cons c r ih => unfold up; split <;> simp <;> omega
theorem up_lt {l : List UInt8} (h : l ≠ []) : (up l).length < l.length := by
  cases l with
  | nil => exact absurd rfl h
  | cons c r =>
    have := up_len r
    unfold up; split <;> simp <;> omega
def ch (l : List UInt8) : List (List UInt8) := l :: after l
theorem ch_eq (l : List UInt8) : ch l = l :: if l.contains 46 then ch (up l) else [] := by
  unfold ch
  rw [after_up l]
theorem ch_next : ∀ (k : Nat) (l u : List UInt8), (ch l)[k]? = some u → (ch l)[k + 1]? = if u.contains 46 then some (up u) else none
  | 0, l, u, h => by
    rw [ch_eq l] at h ⊢
    simp at h; subst h
    simp only [List.getElem?_cons_succ]
    cases l.contains 46 <;> simp [ch]
  | k + 1, l, u, h => by
    rw [ch_eq l] at h ⊢
    simp only [List.getElem?_cons_succ] at h ⊢
    cases hc : l.contains 46 with
    | false => rw [hc] at h; simp at h
    | true =>
      rw [hc] at h
      simpa using ch_next k (up l) u (by simpa using h)
theorem ch_drop : ∀ (k : Nat) (l u : List UInt8), (ch l)[k]? = some u → ch u = (ch l).drop k
  | 0, l, u, h => by
    have : u = l := by
      rw [ch_eq l] at h
      simpa using h.symm
    subst this; simp
  | k + 1, l, u, h => by
    rw [ch_eq l] at h ⊢
    simp only [List.getElem?_cons_succ, List.drop_succ_cons] at h ⊢
    cases hc : l.contains 46 with
    | false => rw [hc] at h; simp at h
    | true =>
      rw [hc] at h
      simpa using ch_drop k (up l) u (by simpa using h)
theorem contains_ne {l : List UInt8} (h : l.contains 46 = true) : l ≠ [] := fun e => by subst e; simp at h
theorem ch_short {l : List UInt8} {i : Nat} : ∀ {j : Nat} {u v : List UInt8}, i < j → (ch l)[i]? = some u → (ch l)[j]? = some v → v.length < u.length
  | 0, _, _, h, _, _ => by omega
  | j + 1, u, v, h, h1, h2 => by
    have hj : j < (ch l).length := by have := (List.getElem?_eq_some_iff.1 h2).1; omega
    obtain ⟨x, hx⟩ : ∃ x, (ch l)[j]? = some x := ⟨_, List.getElem?_eq_getElem hj⟩
    have h3 := ch_next j l x hx
    rw [h2] at h3
    split at h3
    · rename_i hc
      cases h3
      have := up_lt (contains_ne hc)
      rcases Nat.lt_or_ge i j with g | g
      · have := ch_short g h1 hx; omega
      · have : i = j := by omega
        subst this
        rw [h1] at hx; cases hx; omega
    · cases h3
theorem ch_inj {l u : List UInt8} {i j : Nat} (h1 : (ch l)[i]? = some u) (h2 : (ch l)[j]? = some u) : i = j := by
  rcases Nat.lt_trichotomy i j with h | h | h
  · have := ch_short h h1 h2; omega
  · exact h
  · have := ch_short h h2 h1; omega
theorem ups_ch {h : List UInt8} (h0 : h ≠ []) (ha : address h = false) : upsF h = ch h := by unfold upsF ch; rw [if_neg h0, ha]; rfl
/-! ### Hosts -/
def hostOk (l : List UInt8) : Bool := decide (canonF l = (l, 0))
structure Hst (l : List UInt8) : Prop where
  fold : fold l = l
  len : l.length ≤ 253
  lab : (split 46 l).all label = true
theorem host_iff (l : List UInt8) : hostOk l = true ↔ Hst l := by
  unfold hostOk
  rw [decide_eq_true_eq]
  constructor
  · intro e
    obtain ⟨h1, h2, h3⟩ := canon_ok e
    exact ⟨h1.symm, h2, by rw [← h1] at h3; exact h3⟩
  · intro ⟨h1, h2, h3⟩
    unfold canonF
    rw [if_neg (by omega), h1, if_pos h3]
theorem Hst.ne {l : List UInt8} (h : Hst l) : l ≠ [] := fun e => by
  have := h.lab
  rw [e] at this
  simp [split, label] at this
theorem Hst.part {x u : List UInt8} (h : Hst (x ++ 46 :: u)) : Hst u := by
  obtain ⟨h1, h2, h3⟩ := h
  refine ⟨?_, by simp at h2; omega, ?_⟩
  · rw [fold_app, show WordP.fold (46 :: u) = foldB 46 :: WordP.fold u from rfl] at h1
    have hl : (WordP.fold x).length = x.length := by simp [WordP.fold]
    have := (List.append_inj h1 hl).2
    exact (List.cons.injEq _ _ _ _ ▸ this).2
  · rw [split_mid, List.all_append, Bool.and_eq_true] at h3
    exact h3.2
theorem Hst.mem {l u : List UInt8} (h : Hst l) (hu : u ∈ ch l) : Hst u := by
  unfold ch at hu
  rcases List.mem_cons.1 hu with rfl | hu
  · exact h
  · obtain ⟨x, rfl⟩ := (mem_after u l).1 hu
    exact h.part
theorem Hst.dot {l : List UInt8} (h : Hst l) : (up l = []) ↔ l.contains 46 = false := by
  rcases first_at 46 l with hc | ⟨a, r, rfl, hc⟩
  · exact ⟨fun _ => hc, fun _ => up_none hc⟩
  · rw [up_at hc]
    have := h.part.ne
    exact ⟨fun e => absurd e this, fun e => by simp at e⟩
/-! ### Rules -/
def bad1 (r : Suffix) : Nat := if r.kind < 1 ∨ 3 < r.kind then 7 else if hostOk r.name = false ∨ address r.name = true ∨ (r.kind = 3 ∧ up r.name = []) then 1 else 0
def checkG (seen : List Suffix) : List Suffix → Nat
  | [] => 0
  | r :: rest => if bad1 r ≠ 0 then bad1 r else if r ∈ seen then 6 else checkG (seen ++ [r]) rest
def checkF (L : List Suffix) : Nat := if 16 < L.length then 2 else checkG [] L
structure Rules (L : List Suffix) : Prop where
  ok : ∀ r ∈ L, bad1 r = 0
  once : ∀ (i : Nat) r, L[i]? = some r → r ∉ L.take i
theorem checkG_ok : ∀ {L seen : List Suffix}, checkG seen L = 0 → ∀ (i : Nat) r, L[i]? = some r → bad1 r = 0 ∧ r ∉ seen ++ L.take i
  | [], _, _, i, r, h => by simp at h
  | x :: L, seen, e, i, r, h => by
    unfold checkG at e
    split at e
    · rename_i hb; exact absurd e hb
    · rename_i hb
      split at e
      · cases e
      · rename_i hs
        rcases i with _ | i
        · simp at h; subst h
          exact ⟨by omega, by simpa using hs⟩
        · obtain ⟨h1, h2⟩ := checkG_ok e i r (by simpa using h)
          exact ⟨h1, by simpa using h2⟩
theorem check_rules {L : List Suffix} (h : checkF L = 0) : Rules L ∧ L.length ≤ 16 := by
  unfold checkF at h
  split at h
  · cases h
  · refine ⟨⟨fun r hr => ?_, fun i r hi => ?_⟩, by omega⟩
    · obtain ⟨i, hi⟩ := List.mem_iff_getElem?.1 hr
      exact (checkG_ok h i r hi).1
    · have := (checkG_ok h i r hi).2
      simpa using this
theorem bad_ok {r : Suffix} (h : bad1 r = 0) : 1 ≤ r.kind ∧ r.kind ≤ 3 ∧ Hst r.name ∧ address r.name = false ∧ (r.kind = 3 → up r.name ≠ []) := by
  unfold bad1 at h
  split at h
  · cases h
  · rename_i h1
    split at h
    · cases h
    · rename_i h2
      refine ⟨by omega, by omega, (host_iff _).1 ?_, ?_, fun h3 h4 => h2 (.inr (.inr ⟨h3, h4⟩))⟩
      · cases hh : hostOk r.name with
        | true => rfl
        | false => exact absurd (.inl hh) h2
      · cases hh : address r.name with
        | false => rfl
        | true => exact absurd (.inr (.inl hh)) h2
def rIn (L : List Suffix) (kd : Int) (d : List UInt8) : Bool := decide ((⟨kd, d⟩ : Suffix) ∈ L)
def bIn (L : List Suffix) (d : List UInt8) : Bool := rIn L 1 d || rIn L 2 (up d)
def pubF (L : List Suffix) (h : List UInt8) : List UInt8 := if address h then [] else match (ch h).find? (rIn L 3) with
  | some d => up d
  | none => match (ch h).find? (bIn L) with
    | some d => d
    | none => ((ch h).getLast?).getD h
def pubNo (L : List Suffix) (h : List UInt8) : List UInt8 × Nat := if checkF L ≠ 0 then ([], checkF L) else if hostOk h then (pubF L h, 0) else ([], 1)
def owner (L : List Suffix) (h : List UInt8) : List UInt8 := ((ch h).find? fun u => up u == pubF L h).getD []
def ownF (L : List Suffix) (h : List UInt8) : List UInt8 × Nat := if (pubNo L h).2 ≠ 0 then ([], (pubNo L h).2) else if address h then (h, 0) else if pubF L h = h then ([], 5) else (owner L h, 0)
/-- Where the public suffix stands. -/
inductive PubAt (L : List Suffix) (h p : List UInt8) (m : Nat) : Prop
  | exc (k : Nat) (d : List UInt8) (hm : m = k + 1) (hd : (ch h)[k]? = some d) (hr : rIn L 3 d = true) (hf : ∀ (j : Nat) c, j < k → (ch h)[j]? = some c → rIn L 3 c = false)
  | bst (hn : ∀ (j : Nat) c, (ch h)[j]? = some c → rIn L 3 c = false) (hr : bIn L p = true) (hf : ∀ (j : Nat) c, j < m → (ch h)[j]? = some c → bIn L c = false)
  | lst (hn : ∀ (j : Nat) c, (ch h)[j]? = some c → rIn L 3 c = false) (hf : ∀ (j : Nat) c, (ch h)[j]? = some c → bIn L c = false) (hm : m + 1 = (ch h).length)
theorem pub_at {L : List Suffix} {h : List UInt8} (hL : Rules L) (hh : Hst h) (ha : address h = false) : ∃ m, (ch h)[m]? = some (pubF L h) ∧ PubAt L h (pubF L h) m := by
  unfold pubF
  rw [ha]
  simp only [Bool.false_eq_true, if_false]
  cases h1 : (ch h).find? (rIn L 3) with
  | some d =>
    obtain ⟨k, g1, g2, g3⟩ := find_idx.1 h1
    have hd := hh.mem (List.mem_of_getElem? g1)
    have hmem : (⟨3, d⟩ : Suffix) ∈ L := by unfold rIn at g2; simpa using g2
    have hb := (bad_ok (hL.ok _ hmem)).2.2.2.2 rfl
    have hc : d.contains 46 = true := by
      cases hc : d.contains 46 with
      | true => rfl
      | false => exact absurd (hd.dot.2 hc) hb
    have := ch_next k h d g1
    rw [hc, if_pos rfl] at this
    exact ⟨k + 1, this, .exc k d rfl g1 g2 g3⟩
  | none =>
    rw [find_no] at h1
    cases h2 : (ch h).find? (bIn L) with
    | some d =>
      obtain ⟨k, g1, g2, g3⟩ := find_idx.1 h2
      exact ⟨k, g1, .bst h1 g2 g3⟩
    | none =>
      rw [find_no] at h2
      have hne : ch h ≠ [] := by simp [ch]
      have hl : 0 < (ch h).length := List.length_pos_iff.2 hne
      refine ⟨(ch h).length - 1, ?_, .lst h1 h2 (by omega)⟩
      show _ = some (((ch h).getLast?).getD h)
      rw [List.getLast?_eq_getElem?]
      cases hx : (ch h)[(ch h).length - 1]? with
      | none => rw [List.getElem?_eq_none_iff] at hx; omega
      | some x => rfl
theorem pub_ne {L : List Suffix} {h : List UInt8} (hL : Rules L) (hh : Hst h) (ha : address h = false) : pubF L h ≠ [] := by
  obtain ⟨m, h1, _⟩ := pub_at hL hh ha
  exact (hh.mem (List.mem_of_getElem? h1)).ne
/-- Two that stand at one place, in one order. -/
theorem own_at {L : List Suffix} {h : List UInt8} (hL : Rules L) (hh : Hst h) (ha : address h = false) (hn : pubF L h ≠ h) : ∃ k, (ch h)[k]? = some (owner L h) ∧ (ch h)[k + 1]? = some (pubF L h) ∧ up (owner L h) = pubF L h ∧ ∀ (j : Nat) c, j < k → (ch h)[j]? = some c → up c ≠ pubF L h := by
  obtain ⟨m, h1, _⟩ := pub_at hL hh ha
  have hne := pub_ne hL hh ha
  rcases m with _ | k
  · have : pubF L h = h := by
      have : (ch h)[0]? = some h := rfl
      rw [this] at h1
      exact (Option.some.inj h1).symm
    exact absurd this hn
  · have hk : k < (ch h).length := by have := (List.getElem?_eq_some_iff.1 h1).1; omega
    obtain ⟨u, hu⟩ : ∃ u, (ch h)[k]? = some u := ⟨_, List.getElem?_eq_getElem hk⟩
    have h3 := ch_next k h u hu
    rw [h1] at h3
    split at h3
    · rename_i hc
      have he := Option.some.inj h3
      have hfirst : ∀ (j : Nat) c, j < k → (ch h)[j]? = some c → up c ≠ pubF L h := fun j c hj hc' e => by
        have h4 := ch_next j h c hc'
        by_cases hd : c.contains 46 = true
        · rw [hd, if_pos rfl, e] at h4
          have := ch_inj h4 h1
          omega
        · simp only [Bool.not_eq_true] at hd
          rw [up_none hd] at e
          exact hne e.symm
      have ho : owner L h = u := by
        unfold owner
        have : (ch h).find? (fun u => up u == pubF L h) = some u := find_idx.2 ⟨k, hu, by simp [he], fun j c hj hc' => by simpa using hfirst j c hj hc'⟩
        rw [this]; rfl
      rw [ho]
      exact ⟨k, hu, h1, he.symm, hfirst⟩
    · cases h3
theorem pub_below {L : List Suffix} {h o : List UInt8} (hL : Rules L) (hh : Hst h) (ha : address h = false) {k m : Nat} (ho : (ch h)[k]? = some o) (hao : address o = false) (hm : (ch h)[m]? = some (pubF L h)) (hkm : k < m) : pubF L o = pubF L h := by
  obtain ⟨m', h1, h2⟩ := pub_at hL hh ha
  have : m' = m := ch_inj h1 hm
  subst this
  have hd := ch_drop k h o ho
  have at' : ∀ j c, (ch o)[j]? = some c ↔ (ch h)[k + j]? = some c := fun j c => by rw [hd, List.getElem?_drop]
  unfold pubF at *
  rw [hao]
  rw [ha] at h1 h2 ⊢
  simp only [Bool.false_eq_true, if_false] at h1 h2 ⊢
  generalize hp : (match (ch h).find? (rIn L 3) with
    | some d => up d
    | none => match (ch h).find? (bIn L) with
      | some d => d
      | none => ((ch h).getLast?).getD h) = p at *
  cases h2 with
  | exc k' d hm' hd' hr hf =>
    have e1 : (ch o).find? (rIn L 3) = some d := find_idx.2 ⟨k' - k, (at' _ _).2 (by rw [show k + (k' - k) = k' by omega]; exact hd'), hr, fun j c hj hc => hf (k + j) c (by omega) ((at' _ _).1 hc)⟩
    have e2 : (ch h).find? (rIn L 3) = some d := find_idx.2 ⟨k', hd', hr, hf⟩
    rw [e1]
    rw [e2] at hp
    exact hp
  | bst hn hr hf =>
    have e1 : (ch o).find? (rIn L 3) = none := find_no.2 fun j c hc => hn (k + j) c ((at' _ _).1 hc)
    have e2 : (ch o).find? (bIn L) = some p := find_idx.2 ⟨m' - k, (at' _ _).2 (by rw [show k + (m' - k) = m' by omega]; exact h1), hr, fun j c hj hc => hf (k + j) c (by omega) ((at' _ _).1 hc)⟩
    rw [e1, e2]
  | lst hn hf hm' =>
    have e1 : (ch o).find? (rIn L 3) = none := find_no.2 fun j c hc => hn (k + j) c ((at' _ _).1 hc)
    have e2 : (ch o).find? (bIn L) = none := find_no.2 fun j c hc => hf (k + j) c ((at' _ _).1 hc)
    rw [e1, e2]
    show ((ch o).getLast?).getD o = p
    have hl : (ch o).length = (ch h).length - k := by rw [hd]; simp
    rw [List.getLast?_eq_getElem?, (at' ((ch o).length - 1) p).2 (by rw [hl, show k + ((ch h).length - k - 1) = m' by omega]; exact h1)]
    rfl
/-! ### The laws -/
theorem own_shape (L : List Suffix) (h : List UInt8) : ((ownF L h).2 ≠ 0 ∧ (ownF L h).1 = []) ∨ (checkF L = 0 ∧ Hst h ∧ pubNo L h = (pubF L h, 0) ∧ ((address h = true ∧ pubF L h = [] ∧ ownF L h = (h, 0)) ∨ (address h = false ∧ pubF L h ≠ h ∧ ownF L h = (owner L h, 0)))) := by
  unfold ownF
  by_cases hc : checkF L = 0
  · cases hh : hostOk h with
    | false =>
      have e : pubNo L h = ([], 1) := by unfold pubNo; rw [if_neg (by simp [hc]), hh]; rfl
      rw [e]
      exact .inl ⟨by simp, by simp⟩
    | true =>
      have e : pubNo L h = (pubF L h, 0) := by unfold pubNo; rw [if_neg (by simp [hc]), hh]; rfl
      rw [e]
      simp only [ne_eq, not_true_eq_false, if_false]
      cases ha : address h with
      | true =>
        have hp : pubF L h = [] := by unfold pubF; rw [ha]; rfl
        exact .inr ⟨hc, (host_iff h).1 hh, (by first | rfl | trivial), .inl ⟨(by first | rfl | trivial), hp, (by first | rfl | trivial)⟩⟩
      | false =>
        simp only [Bool.false_eq_true, if_false]
        by_cases hp : pubF L h = h
        · rw [if_pos hp]
          exact .inl ⟨by decide, rfl⟩
        · rw [if_neg hp]
          exact .inr ⟨hc, (host_iff h).1 hh, (by first | rfl | trivial), .inr ⟨(by first | rfl | trivial), hp, (by first | rfl | trivial)⟩⟩
  · have e : pubNo L h = ([], checkF L) := by unfold pubNo; rw [if_pos hc]
    rw [e]
    simp only [ne_eq, hc, not_false_eq_true, if_true]
    exact .inl ⟨trivial, trivial⟩
theorem up_shape {o p : List UInt8} (h : up o = p) (hp : p ≠ []) : ∃ a, o = a ++ 46 :: p ∧ a.contains 46 = false := by
  rcases first_at 46 o with hc | ⟨a, r, rfl, hc⟩
  · rw [up_none hc] at h; exact absurd h.symm hp
  · rw [up_at hc] at h; subst h; exact ⟨a, rfl, hc⟩
theorem ch_match {h o : List UInt8} (ha : address h = false) (ho : o ∈ ch h) : matchF h o = true := by
  rw [match_iff]
  unfold ch at ho
  rcases List.mem_cons.1 ho with e | ho
  · exact .inl e.symm
  · exact .inr ⟨ha, (mem_after o h).1 ho⟩
theorem match_ch {h o : List UInt8} (hm : matchF h o = true) : o ∈ ch h := by
  rw [match_iff] at hm
  unfold ch
  rcases hm with e | ⟨_, hx⟩
  · subst e; exact List.mem_cons_self
  · exact List.mem_cons_of_mem _ ((mem_after o h).2 hx)
theorem hostOk_of {l : List UInt8} (h : Hst l) : hostOk l = true := (host_iff l).2 h
theorem own_twice {L : List Suffix} {h : List UInt8} (hc : checkF L = 0) (hh : Hst h) (ha : address h = false) (hn : pubF L h ≠ h) : ownF L (owner L h) = (owner L h, 0) ∧ matchF h (owner L h) = true ∧ ∃ a, owner L h = a ++ 46 :: pubF L h ∧ a.contains 46 = false := by
  have hL := (check_rules hc).1
  obtain ⟨k, h1, h2, h3, h4⟩ := own_at hL hh ha hn
  have ho := hh.mem (List.mem_of_getElem? h1)
  refine ⟨?_, ch_match ha (List.mem_of_getElem? h1), up_shape h3 (pub_ne hL hh ha)⟩
  have e : pubNo L (owner L h) = (pubF L (owner L h), 0) := by unfold pubNo; rw [if_neg (by simp [hc]), hostOk_of ho]; rfl
  unfold ownF
  rw [e]
  simp only [ne_eq, not_true_eq_false, if_false]
  cases hoa : address (owner L h) with
  | true => rfl
  | false =>
    simp only [Bool.false_eq_true, if_false]
    have hp := pub_below hL hh ha h1 hoa h2 (by omega)
    have hlt := ch_short (by omega) h1 h2
    rw [hp, if_neg (fun e => by rw [e] at hlt; omega)]
    have : owner L (owner L h) = owner L h := by
      show ((ch (owner L h)).find? fun u => up u == pubF L (owner L h)).getD [] = _
      rw [hp, ch_eq (owner L h), List.find?_cons, h3]
      simp
    rw [this]
theorem own_same {L : List Suffix} {h g : List UInt8} (hc : checkF L = 0) (hh : Hst h) (ha : address h = false) (hga : address g = false) (hn : pubF L h ≠ h) (hg : pubF L g ≠ g) (he : pubF L h = pubF L g) (hm : matchF h g = true) : owner L h = owner L g := by
  have hL := (check_rules hc).1
  have hmem := match_ch hm
  obtain ⟨m, hm⟩ := List.mem_iff_getElem?.1 hmem
  have hgh := hh.mem hmem
  obtain ⟨k, h1, h2, h3, h4⟩ := own_at hL hh ha hn
  obtain ⟨k', g1, g2, g3, g4⟩ := own_at hL hgh hga hg
  have hd := ch_drop m h g hm
  rw [hd, List.getElem?_drop] at g1 g2
  rw [he] at h2
  have : k + 1 = m + (k' + 1) := ch_inj h2 g2
  have : k = m + k' := by omega
  rw [this, g1] at h1
  exact (Option.some.inj h1).symm
end Go.Proofs.YtkgdkpiacencjaaDoor.SufP
