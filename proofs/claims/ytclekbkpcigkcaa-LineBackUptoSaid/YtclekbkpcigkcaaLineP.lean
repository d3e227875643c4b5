/- Cookies in order, as a line, and a line's pairs: plain. -/
import Derived.Test.YtclekbkpcigkcaaSortW
import Derived.Test.YtclekbkpcigkcaaTreeW
import Derived.Test.YtclekbkpcigkcaaPathT
namespace Go.Proofs.Ytclekbkpcigkcaa.LineP
open Go.RowKit Mem Abs SortP SortW TreeW WordS PathT

theorem ck_iff (x y : Cookie) : ckLt x y = true ↔ y.path.length < x.path.length ∨ y.path.length = x.path.length ∧ (x.created < y.created ∨ x.created = y.created ∧ x.no < y.no) := by
  unfold ckLt cz orI cmpI
  rw [decide_eq_true_iff]
  repeat' split
  all_goals omega
theorem ck_no (x y : Cookie) : ckLt x y = false ↔ ¬ (y.path.length < x.path.length ∨ y.path.length = x.path.length ∧ (x.created < y.created ∨ x.created = y.created ∧ x.no < y.no)) := by
  rw [← ck_iff, Bool.not_eq_true]
theorem ck_weak : Weak ckLt where
  asymm x y h := by rw [ck_iff] at h; rw [ck_no]; omega
  neg x y z h := by rw [ck_iff] at h; rw [ck_iff, ck_iff]; omega
def ahB (p q : Cookie × Nat) : Bool := ckLt p.1 q.1 || (!ckLt q.1 p.1 && decide (p.2 < q.2))
theorem ahB_iff (p q : Cookie × Nat) : ahB p q = true ↔ Ah ckLt p q := by unfold ahB Ah; simp
def rank (L : List Cookie) (x : Cookie) (i : Nat) : Nat := L.zipIdx.countP fun p => ahB p (x, i)
theorem rank_at {L : List Cookie} {M : List (Cookie × Nat)} (hp : M.Perm L.zipIdx) (hs : M.Pairwise (Ah ckLt)) {p : Nat} {x : Cookie} {j : Nat} (h : M[p]? = some (x, j)) : rank L x j = p := by
  obtain ⟨hlt, he⟩ := List.getElem?_eq_some_iff.1 h
  have hM : M = M.take p ++ (x, j) :: M.drop (p + 1) := by rw [← he, List.getElem_cons_drop, List.take_append_drop]
  have hs2 := hs
  rw [hM, List.pairwise_append, List.pairwise_cons] at hs2
  unfold rank
  rw [← hp.countP_eq, hM, List.countP_append, List.countP_cons]
  have h1 : (M.take p).countP (fun q => ahB q (x, j)) = (M.take p).length := List.countP_eq_length.2 fun q hq => (ahB_iff _ _).2 (hs2.2.2 q hq _ (by simp))
  have h2 : ahB (x, j) (x, j) = false := by
    rw [← Bool.not_eq_true, ahB_iff]
    exact fun h => Ah.not ck_weak _ _ h h
  have h3 : (M.drop (p + 1)).countP (fun q => ahB q (x, j)) = 0 := List.countP_eq_zero.2 fun q hq h => Ah.not ck_weak _ _ (hs2.2.1.1 q hq) ((ahB_iff _ _).1 h)
  rw [h1, h2, h3, List.length_take]
  simp
  omega
theorem mem_zip {L : List Cookie} {x : Cookie} {j : Nat} : (x, j) ∈ L.zipIdx ↔ L[j]? = some x := by
  rw [List.mk_mem_zipIdx_iff_getElem?]
theorem rank_of {L : List Cookie} {M : List (Cookie × Nat)} (hp : M.Perm L.zipIdx) (hs : M.Pairwise (Ah ckLt)) {x : Cookie} {j : Nat} (h : L[j]? = some x) : M[rank L x j]? = some (x, j) := by
  obtain ⟨p, hp2⟩ := List.mem_iff_getElem?.1 (hp.mem_iff.2 (mem_zip.2 h))
  rw [rank_at hp hs hp2]; exact hp2
theorem rank_lt {L : List Cookie} {x : Cookie} {j : Nat} (h : L[j]? = some x) : rank L x j < L.length := by
  obtain ⟨M, _, h2, h3⟩ := sort_spec ck_weak L
  have := (List.getElem?_eq_some_iff.1 (rank_of h2 h3 h)).1
  rw [h2.length_eq] at this
  simpa using this
theorem rank_inj {L : List Cookie} {x y : Cookie} {i j : Nat} (h : L[i]? = some x) (k : L[j]? = some y) (e : rank L x i = rank L y j) : i = j := by
  obtain ⟨M, _, h2, h3⟩ := sort_spec ck_weak L
  have h4 := rank_of h2 h3 h
  rw [e, rank_of h2 h3 k] at h4
  cases h4; rfl
/-- Each at its rank: that is the sorted list. -/
theorem ranked {L O : List Cookie} (hl : O.length = L.length) (h : ∀ j x, L[j]? = some x → O[rank L x j]? = some x) : O = sortF ckLt L := by
  obtain ⟨M, h1, h2, h3⟩ := sort_spec ck_weak L
  rw [← h1]
  refine List.ext_getElem? fun p => ?_
  by_cases hp : p < L.length
  · have hM : p < M.length := by rw [h2.length_eq]; simpa using hp
    have e : M[p]? = some M[p] := List.getElem?_eq_getElem hM
    have hm : M[p] ∈ L.zipIdx := h2.mem_iff.1 (List.getElem_mem hM)
    rw [List.getElem?_map, e]
    generalize M[p] = q at *
    obtain ⟨x, j⟩ := q
    have := h j x (mem_zip.1 hm)
    rw [rank_at h2 h3 e] at this
    exact this
  · rw [List.getElem?_eq_none (by omega), List.getElem?_eq_none (by rw [List.length_map, h2.length_eq]; simp; omega)]
theorem rank_step {L : List Cookie} {x y : Cookie} {i k : Nat} (h : L[k]? = some y) : (L.zipIdx.take (k + 1)).countP (fun p => ahB p (x, i)) = (L.zipIdx.take k).countP (fun p => ahB p (x, i)) + if ahB (y, k) (x, i) = true then 1 else 0 := by
  have hk := (List.getElem?_eq_some_iff.1 h).1
  have hz : k < L.zipIdx.length := by simpa using hk
  have e : L.zipIdx[k] = (y, k) := by
    have : L[k] = y := (List.getElem?_eq_some_iff.1 h).2
    simp [this]
  rw [List.take_succ_eq_append_getElem hz, List.countP_append, e, List.countP_cons, List.countP_nil, Nat.zero_add]
theorem rank_all {L : List Cookie} {x : Cookie} {i : Nat} : (L.zipIdx.take L.length).countP (fun p => ahB p (x, i)) = rank L x i := by
  unfold rank
  rw [List.take_of_length_le (by simp)]
theorem rank_self {x : Cookie} {i : Nat} : ahB (x, i) (x, i) = false := by
  rw [← Bool.not_eq_true, ahB_iff]
  exact fun h => Ah.not ck_weak _ _ h h

/-! ### What is sorted -/
theorem sorted_same {α : Type} {R : α → α → Prop} (hR : ∀ a b, R a b → R b a → False) : ∀ {A B : List α}, A.Perm B → A.Pairwise R → B.Pairwise R → A = B
  | [], B, h, _, _ => by rw [List.nil_perm.1 h]
  | a :: A, [], h, _, _ => by have := h.length_eq; simp at this
  | a :: A, b :: B, h, hA, hB => by
    rw [List.pairwise_cons] at hA hB
    have e : a = b := by
      rcases List.mem_cons.1 (h.mem_iff.1 (List.mem_cons_self (a := a) (l := A))) with e | ha
      · exact e
      · rcases List.mem_cons.1 (h.mem_iff.2 (List.mem_cons_self (a := b) (l := B))) with e | hb
        · exact e.symm
        · exact (hR _ _ (hA.1 b hb) (hB.1 a ha)).elim
    subst e
    rw [sorted_same hR ((List.perm_cons a).1 h) hA.2 hB.2]
theorem sort_perm (L : List Cookie) : (sortF ckLt L).Perm L := by
  obtain ⟨M, h1, h2, _⟩ := sort_spec ck_weak L
  rw [← h1]
  have := h2.map Prod.fst
  rwa [List.zipIdx_map_fst] at this
theorem sort_le (L : List Cookie) : (sortF ckLt L).Pairwise fun x y => ckLt y x = false := by
  obtain ⟨M, h1, _, h3⟩ := sort_spec ck_weak L
  rw [← h1, List.pairwise_map]
  exact h3.imp fun {p q} h => by
    rcases h with h | h
    · exact ck_weak.asymm _ _ h
    · exact h.1
theorem sort_fix {L : List Cookie} (h : L.Pairwise fun x y => ckLt y x = false) : sortF ckLt L = L := by
  obtain ⟨M, h1, h2, h3⟩ := sort_spec ck_weak L
  have h4 : L.zipIdx.Pairwise (Ah ckLt) := by
    rw [List.pairwise_iff_getElem] at h ⊢
    intro i j hi hj hij
    have e1 : i < L.length := by simpa using hi
    have e2 : j < L.length := by simpa using hj
    refine .inr ⟨?_, by simpa using hij⟩
    simpa using h i j e1 e2 hij
  rw [sorted_same (fun a b => Ah.not ck_weak a b) h2 h3 h4, List.zipIdx_map_fst] at h1
  exact h1.symm
theorem sort_twice (L : List Cookie) : sortF ckLt (sortF ckLt L) = sortF ckLt L := sort_fix (sort_le L)
theorem sort_any {L K : List Cookie} (hp : K.Perm L) (hd : ∀ (i j : Nat) x y, i ≠ j → L[i]? = some x → L[j]? = some y → x.no ≠ y.no) : sortF ckLt K = sortF ckLt L := by
  have hne : L.Pairwise fun x y => x.no ≠ y.no := by
    rw [List.pairwise_iff_getElem]
    exact fun i j hi hj hij => hd i j _ _ (by omega) (List.getElem?_eq_getElem hi) (List.getElem?_eq_getElem hj)
  have key : ∀ {J : List Cookie}, J.Perm L → (sortF ckLt J).Pairwise fun x y => ckLt x y = true := fun {J} hJ => by
    have h1 : (sortF ckLt J).Pairwise fun x y => x.no ≠ y.no := (((sort_perm J).trans hJ).symm.pairwise_iff (fun {x y} h e => h e.symm)).1 hne
    have h2 := sort_le J
    refine (h1.and h2).imp fun {x y} h => ?_
    have := (ck_no y x).1 h.2
    have h3 := h.1
    rw [ck_iff]
    omega
  refine sorted_same (R := fun x y => ckLt x y = true) (fun a b h1 h2 => by rw [ck_weak.asymm _ _ h1] at h2; cases h2) ?_ (key hp) (key (.refl _))
  exact (sort_perm K).trans (hp.trans (sort_perm L).symm)

/-! ### Lines -/
def ckT (c : Cookie) : List UInt8 := (c.name ++ [61]) ++ c.value
def lineT : List Cookie → List UInt8
  | [] => []
  | [c] => ckT c
  | c :: r => ckT c ++ ([59, 32] ++ lineT r)
theorem lineT_cons (c : Cookie) {r : List Cookie} (h : r ≠ []) : lineT (c :: r) = ckT c ++ ([59, 32] ++ lineT r) := by
  cases r with
  | nil => exact absurd rfl h
  | cons => rfl
theorem lineT_snoc : ∀ (r : List Cookie) (c : Cookie), lineT (r ++ [c]) = if r = [] then ckT c else (lineT r ++ [59, 32]) ++ ckT c
  | [], c => by simp [lineT]
  | [d], c => by simp [lineT]
  | d :: e :: r, c => by
    have h := lineT_snoc (e :: r) c
    rw [if_neg (by simp)] at h ⊢
    rw [List.cons_append, lineT_cons d (by simp), h, lineT_cons d (by simp)]
    simp
theorem ckT_ne (c : Cookie) : ckT c ≠ [] := by unfold ckT; simp
theorem lineT_ne {r : List Cookie} (h : r ≠ []) : lineT r ≠ [] := by
  cases r with
  | nil => exact absurd rfl h
  | cons c r =>
    cases r with
    | nil => exact ckT_ne c
    | cons d r => rw [lineT_cons c (by simp)]; simp [ckT_ne]
def SmallC (L : List Cookie) : Prop := L.length ≤ 1048576 ∧ ∀ c ∈ L, c.name.length ≤ 1048576 ∧ c.value.length ≤ 1048576
theorem lineT_len : ∀ {L : List Cookie}, (∀ c ∈ L, c.name.length ≤ 1048576 ∧ c.value.length ≤ 1048576) → (lineT L).length ≤ L.length * 2097155
  | [], _ => by simp [lineT]
  | [c], h => by
    have := h c (by simp)
    simp [lineT, ckT]; omega
  | c :: d :: r, h => by
    have h1 := h c (by simp)
    have h2 := lineT_len (L := d :: r) fun x hx => h x (by simp [hx])
    rw [lineT_cons c (by simp)]
    simp only [List.length_append, List.length_cons, List.length_nil, ckT] at h2 ⊢
    omega
/-- A part of a line as a pair; none: it is none. -/
def pieceF (i : Nat) (p : List UInt8) : Option Attr :=
  if (0 < i ∧ (cutP p [32]).2 = false) ∨ (cutF 61 (if 0 < i then (cutP p [32]).1 else p)).2.2 = false ∨ (cutF 61 (if 0 < i then (cutP p [32]).1 else p)).1 = [] then none
  else some ⟨(cutF 61 (if 0 < i then (cutP p [32]).1 else p)).1, (cutF 61 (if 0 < i then (cutP p [32]).1 else p)).2.1⟩
def goF : Nat → List (List UInt8) → List Attr → Option (List Attr)
  | _, [], out => some out
  | i, p :: r, out => match pieceF i p with
    | none => none
    | some a => goF (i + 1) r (out ++ [a])
def resF (r : Option (List Attr)) : List Attr × Int := match r with
  | some l => (l, 0)
  | none => ([], 1)
def pairsF (s : List UInt8) : List Attr × Int := if 8000 < s.length then ([], 2) else if s = [] then ([], 0) else resF (goF 0 (split 59 s) [])
def attrC (c : Cookie) : Attr := ⟨c.name, c.value⟩
def FairC (c : Cookie) : Prop := c.name ≠ [] ∧ c.name.contains 59 = false ∧ c.name.contains 61 = false ∧ c.value.contains 59 = false
theorem split_line : ∀ {c : Cookie} {r : List Cookie}, (∀ x ∈ c :: r, FairC x) → split 59 (lineT (c :: r)) = ckT c :: r.map fun x => 32 :: ckT x := by
  have fair : ∀ {x : Cookie}, FairC x → (ckT x).contains 59 = false := fun {x} h => by
    obtain ⟨_, h1, _, h2⟩ := h
    unfold ckT
    rw [List.contains_append, List.contains_append, h1, h2]; rfl
  intro c r
  induction r generalizing c with
  | nil => intro h; exact split_none 59 _ (fair (h c (by simp)))
  | cons d r ih =>
    intro h
    rw [lineT_cons c (by simp), show ckT c ++ ([59, 32] ++ lineT (d :: r)) = ckT c ++ 59 :: (32 :: lineT (d :: r)) by simp, split_app 59 _ _ (fair (h c (by simp)))]
    have h2 := ih (c := d) fun x hx => h x (by simp [List.mem_cons.1 hx])
    have h3 : ∀ (a : UInt8) (t : List UInt8) (b : List UInt8) (q : List (List UInt8)), a ≠ 59 → split 59 t = b :: q → split 59 (a :: t) = (a :: b) :: q := fun a t b q ha e => by
      rcases first_at 59 t with hn | ⟨u, v, rfl, hu⟩
      · rw [split_none 59 t hn] at e
        rw [← (List.cons.inj e).1, ← (List.cons.inj e).2]
        exact split_none 59 _ (by rw [List.contains_cons, hn, Bool.or_false]; simpa using (Ne.symm ha))
      · rw [split_app 59 u v hu] at e
        rw [← (List.cons.inj e).1, ← (List.cons.inj e).2]
        have := split_app 59 (a :: u) v (by rw [List.contains_cons, hu, Bool.or_false]; simpa using (Ne.symm ha))
        simpa using this
    rw [h3 32 _ _ _ (by decide) h2]
    rfl
theorem piece_fair {c : Cookie} (h : FairC c) (i : Nat) : pieceF i (if 0 < i then 32 :: ckT c else ckT c) = some (attrC c) := by
  have e1 : cutF 61 (ckT c) = (c.name, c.value, true) := by
    rw [show ckT c = c.name ++ 61 :: c.value by simp [ckT]]
    exact cutF_at h.2.2.1
  have e2 : cutP (32 :: ckT c) [32] = (ckT c, true) := by
    unfold cutP
    rw [if_pos (show pre (32 :: ckT c) [32] = true by unfold pre; exact decide_eq_true rfl)]
    rfl
  unfold pieceF
  by_cases hi : 0 < i
  · simp only [if_pos hi, e2, e1]
    rw [if_neg (by simp [h.1])]; rfl
  · simp only [if_neg hi, e1]
    rw [if_neg (by simp [h.1, hi])]; rfl
theorem go_fair : ∀ (r : List Cookie) (i : Nat) (out : List Attr), 0 < i → (∀ x ∈ r, FairC x) → goF i (r.map fun x => 32 :: ckT x) out = some (out ++ r.map attrC)
  | [], i, out, _, _ => by simp [goF]
  | c :: r, i, out, hi, h => by
    have e := piece_fair (h c (by simp)) i
    rw [if_pos hi] at e
    rw [List.map_cons, goF, e]
    dsimp only
    rw [go_fair r (i + 1) _ (by omega) fun x hx => h x (by simp [hx])]
    simp
/-- WHAT IS SENT TELLS NAMES AND VALUES. -/
theorem line_back {L : List Cookie} (h : ∀ x ∈ L, FairC x) : pairsF (lineT L) = ([], 2) ∨ pairsF (lineT L) = (L.map attrC, 0) := by
  unfold pairsF
  by_cases h1 : 8000 < (lineT L).length
  · rw [if_pos h1]; exact .inl rfl
  · rw [if_neg h1]
    cases L with
    | nil => exact .inr rfl
    | cons c r =>
      rw [if_neg (lineT_ne (by simp)), split_line h]
      have e := piece_fair (h c (by simp)) 0
      rw [if_neg (by omega)] at e
      rw [goF, e]
      dsimp only
      rw [go_fair r 1 _ (by omega) fun x hx => h x (by simp [hx])]
      exact .inr rfl
end Go.Proofs.Ytclekbkpcigkcaa.LineP
