/- The plain words of consents as bits: runs, a bit for each vendor; what a reader makes of bits. -/
import Derived.Test.YtfhfpanemalbmaaDoorSixtyQ
import Derived.Test.YtfhfpanemalbmaaDoorGrantP
namespace Go.Proofs.YtfhfpanemalbmaaDoor.ConP
open BitsP SixtyP SixtyQ

theorem snocI {α : Type} {p : List α → Prop} (h0 : p []) (h1 : ∀ l b, p l → p (l ++ [b])) : ∀ l, p l := fun l => by
  have key : ∀ r : List α, p r.reverse := fun r => by
    induction r with
    | nil => exact h0
    | cons b r ih => rw [List.reverse_cons]; exact h1 _ _ ih
  have := key l.reverse
  rwa [List.reverse_reverse] at this
/-! ### Runs -/
def consR (u : Nat) : List (Nat × Nat) → List (Nat × Nat)
  | [] => [(u, u)]
  | (a, b) :: r => if a = u + 1 then (u, b) :: r else (u, u) :: (a, b) :: r
def snocR : List (Nat × Nat) → Nat → List (Nat × Nat)
  | [], v => [(v, v)]
  | [(a, b)], v => if b + 1 = v then [(a, v)] else [(a, b), (v, v)]
  | p :: q :: r, v => p :: snocR (q :: r) v
def runsF : List Nat → List (Nat × Nat)
  | [] => []
  | u :: l => consR u (runsF l)
theorem snoc_cons (u v : Nat) : ∀ r : List (Nat × Nat), snocR (consR u r) v = consR u (snocR r v)
  | [] => by
    simp only [consR, snocR]
    by_cases h : u + 1 = v
    · rw [if_pos h, if_pos h.symm]
    · rw [if_neg h, if_neg fun e => h e.symm]
  | [(a, b)] => by
    simp only [consR, snocR]
    by_cases h1 : a = u + 1 <;> by_cases h2 : b + 1 = v <;> simp [h1, h2, snocR]
  | (a, b) :: q :: r => by
    simp only [consR, snocR]
    by_cases h1 : a = u + 1 <;> simp [h1, snocR]
theorem runs_snoc : ∀ (l : List Nat) (v : Nat), runsF (l ++ [v]) = snocR (runsF l) v
  | [], v => rfl
  | u :: l, v => by rw [List.cons_append, runsF, runsF, runs_snoc l v, snoc_cons]
theorem snocR_last : ∀ (d : List (Nat × Nat)) (a b v : Nat), snocR (d ++ [(a, b)]) v = if b + 1 = v then d ++ [(a, v)] else d ++ [(a, b)] ++ [(v, v)]
  | [], a, b, v => by simp [snocR]
  | [p], a, b, v => by
    show p :: snocR [(a, b)] v = _
    simp only [snocR]
    split <;> rfl
  | p :: q :: d, a, b, v => by
    have := snocR_last (q :: d) a b v
    show p :: snocR (q :: (d ++ [(a, b)])) v = _
    rw [show q :: (d ++ [(a, b)]) = (q :: d) ++ [(a, b)] from rfl, this]
    split <;> rfl
theorem runs_take {U : List Nat} {k v : Nat} (h : U[k]? = some v) : runsF (U.take (k + 1)) = snocR (runsF (U.take k)) v := by
  rw [List.take_add_one, h]
  exact runs_snoc _ _
theorem snocR_len (v : Nat) : ∀ r, (snocR r v).length ≤ r.length + 1
  | [] => by simp [snocR]
  | [(a, b)] => by simp only [snocR]; split <;> simp
  | p :: q :: r => by
    have := snocR_len v (q :: r)
    simp only [snocR, List.length_cons] at this ⊢
    omega
theorem consR_len (u : Nat) : ∀ r, (consR u r).length ≤ r.length + 1
  | [] => by simp [consR]
  | (a, b) :: r => by simp only [consR]; split <;> simp
theorem runs_len : ∀ U : List Nat, (runsF U).length ≤ U.length
  | [] => Nat.le_refl _
  | u :: l => by
    have h1 := consR_len u (runsF l)
    have h2 := runs_len l
    rw [runsF, List.length_cons]; omega
/-- All that runs tell is of the list. -/
theorem snocR_all {p : Nat → Prop} (v : Nat) (hv : p v) : ∀ r : List (Nat × Nat), (∀ x ∈ r, p x.1 ∧ p x.2) → ∀ x ∈ snocR r v, p x.1 ∧ p x.2
  | [], _, x, hx => by simp only [snocR, List.mem_singleton] at hx; subst hx; exact ⟨hv, hv⟩
  | [(a, b)], h, x, hx => by
    have := h (a, b) (List.mem_singleton.2 rfl)
    simp only [snocR] at hx
    split at hx
    · simp only [List.mem_singleton] at hx; subst hx; exact ⟨this.1, hv⟩
    · simp only [List.mem_cons, List.not_mem_nil, or_false] at hx
      rcases hx with rfl | rfl
      · exact this
      · exact ⟨hv, hv⟩
  | y :: q :: r, h, x, hx => by
    simp only [snocR, List.mem_cons] at hx
    rcases hx with rfl | hx
    · exact h _ (List.mem_cons_self ..)
    · exact snocR_all v hv (q :: r) (fun z hz => h z (List.mem_cons_of_mem _ hz)) x (by simpa using hx)
theorem runs_all {p : Nat → Prop} (U : List Nat) (h : ∀ v ∈ U, p v) : ∀ x ∈ runsF U, p x.1 ∧ p x.2 := by
  refine snocI (p := fun U => (∀ v ∈ U, p v) → ∀ x ∈ runsF U, p x.1 ∧ p x.2) (fun _ x hx => by cases hx) (fun l b ih h => ?_) U h
  rw [runs_snoc]
  exact snocR_all b (h b (by simp)) _ (ih fun v hv => h v (List.mem_append_left _ hv))
/-- The last vendor; nought: none. -/
def lastOf (U : List Nat) : Nat := U.getLast?.getD 0
theorem snocR_end (v : Nat) : ∀ r, ((snocR r v).getLast?.map Prod.snd) = some v
  | [] => rfl
  | [(a, b)] => by simp only [snocR]; split <;> rfl
  | p :: q :: r => by
    have h := snocR_end v (q :: r)
    simp only [snocR]
    have hne : snocR (q :: r) v ≠ [] := fun e => by rw [e] at h; cases h
    rw [List.getLast?_cons_of_ne_nil hne]
    exact h
theorem runs_last (U : List Nat) : ((runsF U).getLast?.map Prod.snd).getD 0 = lastOf U := by
  refine snocI (p := fun U => ((runsF U).getLast?.map Prod.snd).getD 0 = lastOf U) rfl (fun l b _ => ?_) U
  rw [runs_snoc, snocR_end, lastOf]
  simp
/-! ### The bits of a run, of runs, of vendors -/
def sizeR (p : Nat × Nat) : Nat := if p.1 = p.2 then 7 else 13
def runBits (p : Nat × Nat) : List Nat := (!decide (p.1 = p.2)).toNat :: (bitsOf p.1 6 ++ if p.1 = p.2 then [] else bitsOf p.2 6)
theorem runBits_len (p : Nat × Nat) : (runBits p).length = sizeR p := by
  unfold runBits sizeR
  split <;> simp [bitsOf_len]
def sizes (r : List (Nat × Nat)) : Nat := r.foldl (fun n p => n + sizeR p) 0
theorem foldl_acc (r : List (Nat × Nat)) : ∀ n, r.foldl (fun n p => n + sizeR p) n = n + sizes r := by
  induction r with
  | nil => intro n; rfl
  | cons p r ih => intro n; unfold sizes; rw [List.foldl_cons, List.foldl_cons, ih, ih (0 + sizeR p)]; omega
theorem sizes_snoc (r : List (Nat × Nat)) (p : Nat × Nat) : sizes (r ++ [p]) = sizes r + sizeR p := by unfold sizes; rw [List.foldl_append]; rfl
def runsBits (r : List (Nat × Nat)) : List Nat := r.flatMap runBits
theorem runsBits_snoc (r : List (Nat × Nat)) (p : Nat × Nat) : runsBits (r ++ [p]) = runsBits r ++ runBits p := by simp [runsBits]
theorem runsBits_len (r : List (Nat × Nat)) : (runsBits r).length = sizes r := by
  refine snocI (p := fun r => (runsBits r).length = sizes r) rfl (fun r p ih => ?_) r
  rw [runsBits_snoc, sizes_snoc, List.length_append, ih, runBits_len]
theorem sizes_le (r : List (Nat × Nat)) : sizes r ≤ 13 * r.length := by
  refine snocI (p := fun r => sizes r ≤ 13 * r.length) (Nat.le_refl _) (fun r p ih => ?_) r
  rw [sizes_snoc, List.length_append, List.length_singleton]
  have : sizeR p ≤ 13 := by unfold sizeR; split <;> omega
  omega
theorem toNat_bin (b : Bool) : b.toNat < 2 := by cases b <;> decide
theorem cons_bin {b : Nat} {l : List Nat} (h : b < 2) (hl : Bin l) : Bin (b :: l) := fun x hx => by
  rcases List.mem_cons.1 hx with rfl | hx
  · exact h
  · exact hl x hx
theorem runBits_bin (p : Nat × Nat) : Bin (runBits p) := by
  unfold runBits
  refine cons_bin (toNat_bin _) ((bitsOf_bin _ _).app ?_)
  split
  · exact bin_nil
  · exact bitsOf_bin _ _
theorem runsBits_bin (r : List (Nat × Nat)) : Bin (runsBits r) := fun b hb => by
  obtain ⟨p, _, hp⟩ := List.mem_flatMap.1 hb
  exact runBits_bin p b hp
/-- A bit for each vendor up to n. -/
def eachBit (U : List Nat) (n : Nat) : List Nat := (List.range n).map fun i => (U.contains (i + 1)).toNat
theorem eachBit_succ (U : List Nat) (n : Nat) : eachBit U (n + 1) = eachBit U n ++ [(U.contains (n + 1)).toNat] := by simp [eachBit, List.range_succ]
theorem eachBit_len (U : List Nat) (n : Nat) : (eachBit U n).length = n := by simp [eachBit]
theorem eachBit_bin (U : List Nat) (n : Nat) : Bin (eachBit U n) := fun b hb => by
  obtain ⟨i, _, rfl⟩ := List.mem_map.1 hb
  exact toNat_bin _
def byRuns (U : List Nat) : List Nat := 1 :: (bitsOf (runsF U).length 6 ++ runsBits (runsF U))
def byEach (U : List Nat) : List Nat := 0 :: eachBit U (lastOf U)
/-- Shorter by runs? -/
def short (U : List Nat) : Bool := decide (6 + sizes (runsF U) < lastOf U)
def vendBits (U : List Nat) : List Nat := bif short U then byRuns U else byEach U
theorem byRuns_len (U : List Nat) : (byRuns U).length = 7 + sizes (runsF U) := by simp [byRuns, bitsOf_len, runsBits_len]; omega
theorem byEach_len (U : List Nat) : (byEach U).length = 1 + lastOf U := by simp [byEach, eachBit_len]; omega
theorem short_iff (U : List Nat) : short U = decide ((byRuns U).length < (byEach U).length) := by
  unfold short; rw [byRuns_len, byEach_len]
  by_cases h : 6 + sizes (runsF U) < lastOf U
  · rw [decide_eq_true h, decide_eq_true (by omega)]
  · rw [decide_eq_false h, decide_eq_false (by omega)]
theorem vendBits_len (U : List Nat) : (vendBits U).length ≤ 1 + lastOf U := by
  unfold vendBits
  cases h : short U with
  | false => rw [cond_false, byEach_len]; exact Nat.le_refl _
  | true =>
    rw [cond_true, byRuns_len]
    unfold short at h
    have := of_decide_eq_true h
    omega
theorem vendBits_bin (U : List Nat) : Bin (vendBits U) := by
  unfold vendBits
  cases short U with
  | true => exact cons_bin (by decide) ((bitsOf_bin _ _).app (runsBits_bin _))
  | false => exact cons_bin (by decide) (eachBit_bin _ _)
def purpBits (P : Nat → Bool) (n : Nat) : List Nat := (List.range n).map fun i => (P i).toNat
theorem purpBits_succ (P : Nat → Bool) (n : Nat) : purpBits P (n + 1) = purpBits P n ++ [(P n).toNat] := by simp [purpBits, List.range_succ]
theorem purpBits_len (P : Nat → Bool) (n : Nat) : (purpBits P n).length = n := by simp [purpBits]
theorem purpBits_bin (P : Nat → Bool) (n : Nat) : Bin (purpBits P n) := fun b hb => by
  obtain ⟨i, _, rfl⟩ := List.mem_map.1 hb
  exact toNat_bin _
def headBits (g : Nat) (P : Nat → Bool) (U : List Nat) : List Nat := bitsOf 1 6 ++ bitsOf g 36 ++ purpBits P 10 ++ bitsOf (lastOf U) 6
def conBits (g : Nat) (P : Nat → Bool) (U : List Nat) : List Nat := headBits g P U ++ vendBits U
theorem headBits_len (g : Nat) (P : Nat → Bool) (U : List Nat) : (headBits g P U).length = 58 := by simp [headBits, bitsOf_len, purpBits_len]
theorem headBits_bin (g : Nat) (P : Nat → Bool) (U : List Nat) : Bin (headBits g P U) := (((bitsOf_bin _ _).app (bitsOf_bin _ _)).app (purpBits_bin _ _)).app (bitsOf_bin _ _)
theorem conBits_bin (g : Nat) (P : Nat → Bool) (U : List Nat) : Bin (conBits g P U) := (headBits_bin g P U).app (vendBits_bin U)
theorem conBits_len (g : Nat) (P : Nat → Bool) (U : List Nat) : (conBits g P U).length ≤ 59 + lastOf U := by
  unfold conBits
  rw [List.length_append, headBits_len]
  have := vendBits_len U
  omega
/-- Bits as bytes. -/
def packT (l : List Nat) : List UInt8 := (packB l).map UInt8.ofNat
theorem packT_len (l : List Nat) : (packT l).length = (l.length + 7) / 8 := by simp [packT, packB_len]
/-- A consent's text. -/
def conText (g : Nat) (P : Nat → Bool) (U : List Nat) : List UInt8 := enc6 (tbits (packT (conBits g P U)))

/-! ### Right vendors -/
def RightN (U : List Nat) : Prop := U.Pairwise (· < ·) ∧ ∀ v ∈ U, 1 ≤ v ∧ v ≤ 40
theorem lastOf_le {U : List Nat} (h : RightN U) : lastOf U ≤ 40 := by
  unfold lastOf
  cases hl : U.getLast? with
  | none => simp
  | some v => exact (h.2 v (List.mem_of_getLast? hl)).2
theorem right_len : ∀ (U : List Nat) (a : Nat), U.Pairwise (· < ·) → (∀ v ∈ U, a ≤ v ∧ v ≤ 40) → a ≤ 41 → U.length + a ≤ 41
  | [], a, _, _, ha => by simp only [List.length_nil]; omega
  | u :: l, a, h, hr, _ => by
    obtain ⟨h1, h2⟩ := List.pairwise_cons.1 h
    have hu := hr u (List.mem_cons_self ..)
    have := right_len l (u + 1) h2 (fun v hv => ⟨h1 v hv, (hr v (List.mem_cons_of_mem _ hv)).2⟩) (by omega)
    rw [List.length_cons]; omega
theorem right_few {U : List Nat} (h : RightN U) : U.length ≤ 40 := by
  have := right_len U 1 h.1 h.2 (by omega)
  omega
theorem lastOf_mem (x : Nat) (l : List Nat) : lastOf (x :: l) ∈ x :: l := by
  unfold lastOf
  cases h : (x :: l).getLast? with
  | none => simp at h
  | some v => exact List.mem_of_getLast? h
theorem lastOf_cons (u x : Nat) (l : List Nat) : lastOf (u :: x :: l) = lastOf (x :: l) := by
  unfold lastOf; rw [List.getLast?_cons_cons]
/-- The walk along vendors and numbers at once. -/
theorem tw_step : ∀ (U : List Nat) (i : Nat), U.Pairwise (· < ·) → i < lastOf U → ∃ h, U[(U.takeWhile (fun x => decide (x ≤ i))).length]? = some h ∧ decide (h = i + 1) = U.contains (i + 1) ∧ (U.takeWhile (fun x => decide (x ≤ i + 1))).length = (U.takeWhile (fun x => decide (x ≤ i))).length + (decide (h = i + 1)).toNat
  | [], i, _, h => by simp [lastOf] at h
  | u :: l, i, hp, hi => by
    obtain ⟨h1, h2⟩ := List.pairwise_cons.1 hp
    by_cases hu : u ≤ i
    · have hl : i < lastOf l := by
        cases l with
        | nil => simp [lastOf] at hi; omega
        | cons x l => simpa [lastOf] using hi
      obtain ⟨h, e1, e2, e3⟩ := tw_step l i h2 hl
      refine ⟨h, ?_, ?_, ?_⟩
      · rw [List.takeWhile_cons_of_pos (by simpa using hu), List.length_cons, List.getElem?_cons_succ]; exact e1
      · rw [e2, List.contains_cons, show (i + 1 == u) = false from by simp; omega, Bool.false_or]
      · rw [List.takeWhile_cons_of_pos (by simp; omega), List.takeWhile_cons_of_pos (by simpa using hu), List.length_cons, List.length_cons, e3]; omega
    · have e0 : (u :: l).takeWhile (fun x => decide (x ≤ i)) = [] := List.takeWhile_cons_of_neg (by simpa using hu)
      rw [e0]
      refine ⟨u, rfl, ?_, ?_⟩
      · by_cases hc : u = i + 1
        · subst hc; simp
        · rw [decide_eq_false hc]
          symm
          rw [← Bool.not_eq_true, List.contains_iff_mem]
          intro hm
          rcases List.mem_cons.1 hm with e | hm
          · exact hc e.symm
          · have := h1 _ hm; omega
      · by_cases hc : u = i + 1
        · rw [List.takeWhile_cons_of_pos (by simp; omega), decide_eq_true hc]
          have : l.takeWhile (fun x => decide (x ≤ i + 1)) = [] := by
            cases l with
            | nil => rfl
            | cons x l => have := h1 x (List.mem_cons_self ..); exact List.takeWhile_cons_of_neg (by simp; omega)
          rw [this]; rfl
        · rw [List.takeWhile_cons_of_neg (by simp; omega), decide_eq_false hc]; rfl

/-! ### The document's runs -/
def endF (U : List Nat) : Nat → Nat → Nat
  | 0, e => e
  | n + 1, e => if U.contains (e + 1) then endF U n (e + 1) else e
def begR (U : List Nat) (v : Nat) : List (Nat × Nat) := if U.contains v && !U.contains (v - 1) then [(v, endF U 41 v)] else []
def docRuns (U : List Nat) (n : Nat) : List (Nat × Nat) := (List.range' 1 n).flatMap (begR U)
theorem docRuns_succ (U : List Nat) (n : Nat) : docRuns U (n + 1) = docRuns U n ++ begR U (n + 1) := by
  unfold docRuns
  rw [List.range'_concat, List.flatMap_append]
  simp [Nat.add_comm]
theorem endF_ge (U : List Nat) : ∀ n e, e ≤ endF U n e
  | 0, e => Nat.le_refl _
  | n + 1, e => by
    rw [endF]; split
    · exact Nat.le_trans (by omega) (endF_ge U n (e + 1))
    · exact Nat.le_refl _
theorem endF_stop {U : List Nat} {e : Nat} (h : U.contains (e + 1) = false) (n : Nat) : endF U n e = e := by
  cases n with
  | zero => rfl
  | succ n => rw [endF, if_neg (by rw [h]; decide)]
theorem endF_more {U : List Nat} (hU : ∀ v ∈ U, v ≤ 40) : ∀ n m e, 41 ≤ n + e → 41 ≤ m + e → endF U n e = endF U m e
  | 0, m, e, h1, _ => by
    have : U.contains (e + 1) = false := by
      rw [← Bool.not_eq_true, List.contains_iff_mem]; intro hm; have := hU _ hm; omega
    rw [endF_stop this, endF_stop this]
  | n + 1, 0, e, _, h2 => by
    have : U.contains (e + 1) = false := by
      rw [← Bool.not_eq_true, List.contains_iff_mem]; intro hm; have := hU _ hm; omega
    rw [endF_stop this, endF_stop this]
  | n + 1, m + 1, e, h1, h2 => by
    rw [endF, endF]
    split
    · exact endF_more hU n m (e + 1) (by omega) (by omega)
    · rfl
theorem endF_cons {u : Nat} {l : List Nat} : ∀ n e, u ≤ e → endF (u :: l) n e = endF l n e
  | 0, e, _ => rfl
  | n + 1, e, h => by
    rw [endF, endF, List.contains_cons, show (e + 1 == u) = false from by simp; omega, Bool.false_or, endF_cons n (e + 1) (by omega)]
theorem begR_none {U : List Nat} {v : Nat} (h : v ∉ U) : begR U v = [] := by
  unfold begR
  have : U.contains v = false := by rw [← Bool.not_eq_true, List.contains_iff_mem]; exact h
  rw [this, Bool.false_and, if_neg (by decide)]
theorem begR_fst {U : List Nat} {v : Nat} : ∀ x ∈ begR U v, x.1 = v := fun x hx => by
  unfold begR at hx
  split at hx
  · rw [List.mem_singleton] at hx; rw [hx]
  · cases hx
theorem flat_none {f : Nat → List (Nat × Nat)} : ∀ l : List Nat, (∀ v ∈ l, f v = []) → l.flatMap f = []
  | [], _ => rfl
  | v :: l, h => by rw [List.flatMap_cons, h v (List.mem_cons_self ..), flat_none l fun x hx => h x (List.mem_cons_of_mem _ hx), List.nil_append]
theorem flat_same {f g : Nat → List (Nat × Nat)} : ∀ l : List Nat, (∀ v ∈ l, f v = g v) → l.flatMap f = l.flatMap g
  | [], _ => rfl
  | v :: l, h => by rw [List.flatMap_cons, List.flatMap_cons, h v (List.mem_cons_self ..), flat_same l fun x hx => h x (List.mem_cons_of_mem _ hx)]
theorem doc_runs : ∀ (U : List Nat) (n : Nat), RightN U → lastOf U ≤ n → docRuns U n = runsF U
  | [], n, _, _ => flat_none _ fun v _ => begR_none (by simp)
  | u :: l, n, hU, hn => by
    obtain ⟨h1, h2⟩ := List.pairwise_cons.1 hU.1
    have hl : RightN l := ⟨h2, fun v hv => hU.2 v (List.mem_cons_of_mem _ hv)⟩
    have hu := hU.2 u (List.mem_cons_self ..)
    have hle : ∀ v ∈ l, v ≤ 40 := fun v hv => (hl.2 v hv).2
    have hun : u ≤ n := by
      cases l with
      | nil => simpa [lastOf] using hn
      | cons x l =>
        have : lastOf (u :: x :: l) ∈ x :: l := by rw [lastOf_cons]; exact lastOf_mem x l
        have := h1 _ this
        omega
    have hln : lastOf l ≤ n := by
      cases l with
      | nil => simp [lastOf]
      | cons x l => simpa [lastOf] using hn
    have ih := doc_runs l n hl hln
    rw [runsF, ← ih]
    -- up to u, u itself, and beyond
    have split : List.range' 1 n = List.range' 1 (u - 1) ++ u :: List.range' (u + 1) (n - u) := by
      have e := List.range'_append_1 (s := 1) (m := u - 1) (n := n - u + 1)
      rw [show 1 + (u - 1) = u from by omega, show u - 1 + (n - u + 1) = n from by omega, List.range'_succ] at e
      exact e.symm
    have low : ∀ v ∈ List.range' 1 (u - 1), v < u := fun v hv => by simp only [List.mem_range'_1] at hv; omega
    have hul : u ∉ l := fun h => by have := h1 u h; omega
    have below : ∀ v, v ≤ u → v ∉ l := fun v hv h => by have := h1 v h; omega
    unfold docRuns
    rw [split, List.flatMap_append, List.flatMap_append, flat_none _ (fun v hv => begR_none (U := u :: l) (fun h => by have := low v hv; rcases List.mem_cons.1 h with rfl | h; omega; exact below v (by omega) h)), flat_none _ (fun v hv => begR_none (U := l) (below v (by have := low v hv; omega))), List.nil_append, List.nil_append, List.flatMap_cons, List.flatMap_cons, begR_none hul, List.nil_append]
    have hbu : begR (u :: l) u = [(u, endF l 41 u)] := by
      unfold begR
      have e1 : (u :: l).contains u = true := by simp
      have e2 : (u :: l).contains (u - 1) = false := by
        rw [← Bool.not_eq_true, List.contains_iff_mem]
        intro hm
        rcases List.mem_cons.1 hm with e | hm
        · omega
        · exact below (u - 1) (by omega) hm
      rw [e1, e2, endF_cons _ _ (Nat.le_refl _)]
      rfl
    rw [hbu]
    cases hk : n - u with
    | zero =>
      have hnil : l = [] := by
        cases l with
        | nil => rfl
        | cons x l =>
          have hx := h1 x (List.mem_cons_self ..)
          have : lastOf (x :: l) ≤ n := hln
          have h3 : x ≤ lastOf (x :: l) := by
            cases l with
            | nil => simp [lastOf]
            | cons y l =>
              have hm : lastOf (x :: y :: l) ∈ y :: l := by rw [lastOf_cons]; exact lastOf_mem y l
              exact Nat.le_of_lt ((List.pairwise_cons.1 h2).1 _ hm)
          omega
      subst hnil
      simp [consR, endF]
    | succ k =>
      rw [List.range'_succ, List.flatMap_cons, List.flatMap_cons]
      have rest : (List.range' (u + 1 + 1) k).flatMap (begR (u :: l)) = (List.range' (u + 1 + 1) k).flatMap (begR l) := by
        refine flat_same _ fun v hv => ?_
        simp only [List.mem_range'_1] at hv
        unfold begR
        rw [List.contains_cons, List.contains_cons, show (v == u) = false from by simp; omega, show (v - 1 == u) = false from by simp; omega, Bool.false_or, Bool.false_or, endF_cons _ _ (by omega)]
      have hb1 : begR (u :: l) (u + 1) = [] := by
        unfold begR
        have : (u :: l).contains (u + 1 - 1) = true := by simp
        rw [this]
        simp
      rw [rest, hb1, List.nil_append]
      by_cases hc : l.contains (u + 1) = true
      · have hb2 : begR l (u + 1) = [(u + 1, endF l 41 (u + 1))] := by
          unfold begR
          have : l.contains (u + 1 - 1) = false := by
            rw [← Bool.not_eq_true, List.contains_iff_mem]; exact hul
          rw [hc, this]; rfl
        rw [hb2]
        have e : endF l 41 u = endF l 41 (u + 1) := by
          rw [endF, if_pos hc]
          exact endF_more hle 40 41 (u + 1) (by omega) (by omega)
        rw [e]
        simp [consR]
      · have hc' : l.contains (u + 1) = false := by simpa using hc
        have hb2 : begR l (u + 1) = [] := begR_none fun h => hc (by simpa using h)
        rw [hb2, List.nil_append, endF_stop hc']
        have hfst : ∀ x ∈ (List.range' (u + 1 + 1) k).flatMap (begR l), u + 2 ≤ x.1 := fun x hx => by
          obtain ⟨v, hv, hx⟩ := List.mem_flatMap.1 hx
          simp only [List.mem_range'_1] at hv
          rw [begR_fst x hx]; omega
        cases hr : (List.range' (u + 1 + 1) k).flatMap (begR l) with
        | nil => rfl
        | cons p r =>
          obtain ⟨a, b⟩ := p
          have := hfst (a, b) (by rw [hr]; exact List.mem_cons_self ..)
          show _ = consR u ((a, b) :: r)
          rw [consR, if_neg (by simp only at this; omega)]
          rfl
end Go.Proofs.YtfhfpanemalbmaaDoor.ConP
namespace Go.Proofs.YtfhfpanemalbmaaDoor.ConQ
open BitsP SixtyP SixtyQ ConP

def spanV (a b : Nat) : List Nat := List.range' a (b + 1 - a)
def runsP : Nat → List Nat → Option (List Nat)
  | 0, _ => some []
  | n + 1, l => if l.length < 7 then none
    else if num (l.take 1) = 1 then (if l.length < 13 then none else (runsP n (l.drop 13)).map (spanV (num ((l.drop 1).take 6)) (num ((l.drop 7).take 6)) ++ ·))
    else (runsP n (l.drop 7)).map (spanV (num ((l.drop 1).take 6)) (num ((l.drop 1).take 6)) ++ ·)
def eachP (n : Nat) (l : List Nat) : List Nat := ((List.range n).filter fun i => decide (l.getD i 0 = 1)).map (· + 1)
theorem eachP_succ (n : Nat) (l : List Nat) : eachP (n + 1) l = eachP n l ++ if l.getD n 0 = 1 then [n + 1] else [] := by
  unfold eachP
  rw [List.range_succ, List.filter_append, List.map_append]
  congr 1
  by_cases h : l.getD n 0 = 1
  · rw [if_pos h, List.filter_cons_of_pos (by simpa using h)]; rfl
  · rw [if_neg h, List.filter_cons_of_neg (by simpa using h)]; rfl
theorem eachP_len (n : Nat) (l : List Nat) : (eachP n l).length ≤ n := by
  unfold eachP
  rw [List.length_map]
  exact Nat.le_trans (List.length_filter_le _ _) (by simp)
/-- Vendors of the bits behind 'last'. -/
def vendsP (last : Nat) (l : List Nat) : Option (List Nat) :=
  if num (l.take 1) = 1 then (if l.length < 7 then none else runsP (num ((l.drop 1).take 6)) (l.drop 7))
  else if l.length < 1 + last then none else some (eachP last (l.drop 1))
def given (l : List Nat) : Nat := num ((l.drop 6).take 36)
def purp (l : List Nat) (i : Nat) : Bool := decide (num ((l.drop (42 + i)).take 1) = 1)
def lastP (l : List Nat) : Nat := num ((l.drop 52).take 6)
def vends (l : List Nat) : Option (List Nat) := vendsP (lastP l) (l.drop 58)
/-- The fault of bits; nought: none. -/
def codeP (l : List Nat) : Nat := if l.length < 6 then 5 else if num (l.take 6) ≠ 1 then 7 else if l.length < 59 then 5 else match vends l with
  | none => 5
  | some _ => 0
abbrev Rd := Nat × (Nat → Bool) × List Nat × Nat
def noRd (c : Nat) : Rd := (0, fun _ => false, [], c)
abbrev toI (U : List Nat) : List Int := U.map fun n : Nat => (n : Int)
def readL (t : List UInt8) (l : List Nat) (U : List Nat) : Rd := if GrantP.check (given l : Int) (toI U) = 0 ∧ conText (given l) (purp l) U = t then (given l, purp l, U, 0) else noRd 1
def readC (t : List UInt8) : Rd :=
  if (readF t).2 ≠ 0 then noRd (readF t).2
  else if codeP (tbits (readF t).1) ≠ 0 then noRd (codeP (tbits (readF t).1))
  else readL t (tbits (readF t).1) ((vends (tbits (readF t).1)).getD [])

/-! ### Right ones -/
theorem right_toI {U : List Nat} : GrantP.Right (toI U) ↔ RightN U := by
  unfold GrantP.Right RightN
  rw [List.pairwise_map]
  constructor
  · rintro ⟨h1, h2⟩
    exact ⟨h1.imp fun h => by omega, fun v hv => by have := h2 (v : Int) (List.mem_map.2 ⟨v, hv, rfl⟩); omega⟩
  · rintro ⟨h1, h2⟩
    refine ⟨h1.imp fun h => by omega, fun v hv => ?_⟩
    obtain ⟨n, hn, rfl⟩ := List.mem_map.1 hv
    have := h2 n hn
    omega
theorem check_iff {g : Int} {L : List Int} : GrantP.check g L = 0 ↔ (0 ≤ g ∧ g ≤ 68719476735) ∧ GrantP.Right L := by
  unfold GrantP.check GrantP.codeG
  by_cases h : g < 0 ∨ 68719476735 < g
  · rw [if_pos h, if_neg (by decide)]
    constructor
    · intro h; cases h
    · intro h; omega
  · rw [if_neg h, if_pos rfl]
    constructor
    · intro h2; exact ⟨by omega, GrantP.right_of h2⟩
    · intro h2; exact GrantP.of_right h2.2
theorem right_nat {L : List Int} (h : GrantP.Right L) : ∃ U, L = toI U ∧ RightN U := by
  have e : L = toI (L.map Int.toNat) := by
    unfold toI
    rw [List.map_map]
    conv => lhs; rw [← List.map_id L]
    refine List.map_congr_left fun v hv => ?_
    have := h.2 v hv
    simp only [id, Function.comp]
    omega
  exact ⟨_, e, right_toI.1 (e ▸ h)⟩
/-- A right consent is one of natural numbers. -/
theorem check_nat {g : Int} {L : List Int} (h : GrantP.check g L = 0) : ∃ (n : Nat) (U : List Nat), g = (n : Int) ∧ L = toI U ∧ n ≤ 68719476735 ∧ RightN U := by
  obtain ⟨h1, h2⟩ := check_iff.1 h
  obtain ⟨U, e, hU⟩ := right_nat h2
  exact ⟨g.toNat, U, by omega, e, by omega, hU⟩
theorem nat_check {n : Nat} {U : List Nat} (h1 : n ≤ 68719476735) (h2 : RightN U) : GrantP.check (n : Int) (toI U) = 0 := check_iff.2 ⟨by omega, right_toI.2 h2⟩

/-! ### What is written is read as it was -/
theorem ext_sorted : ∀ {a b : List Nat}, a.Pairwise (· < ·) → b.Pairwise (· < ·) → (∀ x, x ∈ a ↔ x ∈ b) → a = b
  | [], [], _, _, _ => rfl
  | [], y :: b, _, _, h => by have := (h y).2 List.mem_cons_self; cases this
  | x :: a, [], _, _, h => by have := (h x).1 List.mem_cons_self; cases this
  | x :: a, y :: b, ha, hb, h => by
    have ha' := List.pairwise_cons.1 ha
    have hb' := List.pairwise_cons.1 hb
    have e : x = y := by
      have h1 := (h x).1 List.mem_cons_self
      have h2 := (h y).2 List.mem_cons_self
      rcases List.mem_cons.1 h1 with e | h1
      · exact e
      · rcases List.mem_cons.1 h2 with e | h2
        · exact e.symm
        · have := hb'.1 x h1; have := ha'.1 y h2; omega
    subst e
    refine congrArg (x :: ·) (ext_sorted ha'.2 hb'.2 fun z => ?_)
    constructor
    · intro hz
      rcases List.mem_cons.1 ((h z).1 (List.mem_cons_of_mem _ hz)) with e | h1
      · subst e; have := ha'.1 z hz; omega
      · exact h1
    · intro hz
      rcases List.mem_cons.1 ((h z).2 (List.mem_cons_of_mem _ hz)) with e | h1
      · subst e; have := hb'.1 z hz; omega
      · exact h1
theorem each_back {U : List Nat} (hU : RightN U) (z : List Nat) : eachP (lastOf U) (eachBit U (lastOf U) ++ z) = U := by
  refine ext_sorted ?_ hU.1 fun x => ?_
  · unfold eachP
    rw [List.pairwise_map]
    exact (List.pairwise_lt_range.filter _).imp fun h => by omega
  · have bit : ∀ i, i < lastOf U → (eachBit U (lastOf U) ++ z).getD i 0 = (U.contains (i + 1)).toNat := fun i hi => by
      rw [List.getD_eq_getElem?_getD, List.getElem?_append_left (by rw [eachBit_len]; exact hi)]
      simp [eachBit, hi]
    unfold eachP
    rw [List.mem_map]
    constructor
    · rintro ⟨i, hi, rfl⟩
      obtain ⟨h1, h2⟩ := List.mem_filter.1 hi
      rw [List.mem_range] at h1
      have h3 := of_decide_eq_true h2
      rw [bit i h1] at h3
      rw [← List.contains_iff_mem]
      cases hc : U.contains (i + 1) with
      | true => rfl
      | false => rw [hc] at h3; cases h3
    · intro hx
      have h1 := hU.2 x hx
      have h2 : x ≤ lastOf U := by
        have key : ∀ (U : List Nat), U.Pairwise (· < ·) → ∀ x ∈ U, x ≤ lastOf U := by
          intro U
          induction U with
          | nil => intro _ x hx; cases hx
          | cons u l ih =>
            intro hp x hx
            obtain ⟨p1, p2⟩ := List.pairwise_cons.1 hp
            cases l with
            | nil => rw [List.mem_singleton.1 hx]; simp [lastOf]
            | cons y l =>
              rw [lastOf_cons]
              rcases List.mem_cons.1 hx with rfl | hx
              · have := p1 _ (lastOf_mem y l); omega
              · exact ih p2 x hx
        exact key U hU.1 x hx
      refine ⟨x - 1, List.mem_filter.2 ⟨List.mem_range.2 (by omega), ?_⟩, by omega⟩
      rw [bit (x - 1) (by omega), show x - 1 + 1 = x from by omega, show U.contains x = true from by simpa using hx]
      rfl
theorem runs_le : ∀ U : List Nat, ∀ x ∈ runsF U, x.1 ≤ x.2
  | [], x, hx => by cases hx
  | u :: l, x, hx => by
    have ih := runs_le l
    rw [runsF] at hx
    cases hr : runsF l with
    | nil => rw [hr] at hx; simp only [consR, List.mem_singleton] at hx; subst hx; exact Nat.le_refl _
    | cons p r =>
      obtain ⟨a, b⟩ := p
      rw [hr] at hx ih
      have hab : a ≤ b := ih (a, b) (List.mem_cons_self ..)
      simp only [consR] at hx
      split at hx
      · rcases List.mem_cons.1 hx with rfl | hx
        · show u ≤ b; omega
        · exact ih x (List.mem_cons_of_mem _ hx)
      · rcases List.mem_cons.1 hx with rfl | hx
        · exact Nat.le_refl _
        · exact ih x hx
def spans (r : List (Nat × Nat)) : List Nat := r.flatMap fun p => spanV p.1 p.2
theorem spans_runs : ∀ U : List Nat, spans (runsF U) = U
  | [] => rfl
  | u :: l => by
    have ih := spans_runs l
    have hle := runs_le l
    rw [runsF]
    cases hr : runsF l with
    | nil =>
      rw [hr] at ih
      have : l = [] := ih.symm
      subst this
      simp [consR, spans, spanV, List.range'_succ]
    | cons p r =>
      obtain ⟨a, b⟩ := p
      rw [hr] at ih hle
      have hab : a ≤ b := hle (a, b) (List.mem_cons_self ..)
      simp only [consR]
      split
      · rename_i e
        rw [← ih]
        simp only [spans, List.flatMap_cons, spanV]
        rw [show b + 1 - u = (b + 1 - a) + 1 from by omega, List.range'_succ, List.cons_append, e]
      · rw [← ih]
        simp only [spans, List.flatMap_cons, spanV]
        rw [show u + 1 - u = 0 + 1 from by omega, List.range'_succ]
        rfl
theorem num6 {n : Nat} (h : n < 64) : num (bitsOf n 6) = n := by rw [num_bitsOf]; exact Nat.mod_eq_of_lt (by simpa using h)
theorem runs_back (z : List Nat) : ∀ r : List (Nat × Nat), (∀ x ∈ r, x.1 < 64 ∧ x.2 < 64) → runsP r.length (runsBits r ++ z) = some (spans r)
  | [], _ => rfl
  | p :: r, h => by
    have ih := runs_back z r fun x hx => h x (List.mem_cons_of_mem _ hx)
    obtain ⟨h1, h2⟩ := h p (List.mem_cons_self ..)
    have l1 := bitsOf_len p.1 6
    have l2 := bitsOf_len p.2 6
    have e : runsBits (p :: r) ++ z = runBits p ++ (runsBits r ++ z) := by simp [runsBits]
    rw [e, List.length_cons, runsP]
    unfold runBits
    by_cases hp : p.1 = p.2
    · have hn : (!decide (p.1 = p.2)).toNat = 0 := by rw [decide_eq_true hp]; rfl
      rw [if_pos hp, List.append_nil, hn, if_neg (by rw [List.length_append, List.length_cons, l1]; omega), if_neg (by simp [num])]
      have e1 : (0 :: bitsOf p.1 6 ++ (runsBits r ++ z)).drop 7 = runsBits r ++ z := by
        rw [List.cons_append, List.drop_succ_cons, List.drop_left' l1]
      have e2 : ((0 :: bitsOf p.1 6 ++ (runsBits r ++ z)).drop 1).take 6 = bitsOf p.1 6 := by
        rw [List.cons_append, List.drop_succ_cons, List.drop_zero, List.take_left' l1]
      rw [e1, e2, ih, num6 h1]
      simp [spans, hp]
    · have hn : (!decide (p.1 = p.2)).toNat = 1 := by rw [decide_eq_false hp]; rfl
      rw [if_neg hp, hn, if_neg (by simp [l1, l2]), if_pos (by simp [num]), if_neg (by simp [l1, l2]; omega)]
      have e1 : (1 :: (bitsOf p.1 6 ++ bitsOf p.2 6) ++ (runsBits r ++ z)).drop 13 = runsBits r ++ z := by
        rw [List.cons_append, List.drop_succ_cons, List.drop_left' (by rw [List.length_append, l1, l2])]
      have e2 : ((1 :: (bitsOf p.1 6 ++ bitsOf p.2 6) ++ (runsBits r ++ z)).drop 1).take 6 = bitsOf p.1 6 := by
        rw [List.cons_append, List.drop_succ_cons, List.drop_zero, List.append_assoc, List.take_left' l1]
      have e3 : ((1 :: (bitsOf p.1 6 ++ bitsOf p.2 6) ++ (runsBits r ++ z)).drop 7).take 6 = bitsOf p.2 6 := by
        rw [List.cons_append, List.drop_succ_cons, List.append_assoc, List.drop_left' l1, List.take_left' l2]
      rw [e1, e2, e3, ih, num6 h1, num6 h2]
      simp [spans]
theorem vends_back {U : List Nat} (hU : RightN U) (z : List Nat) : vendsP (lastOf U) (vendBits U ++ z) = some U := by
  unfold vendsP vendBits
  cases short U with
  | true =>
    have h6 := bitsOf_len (runsF U).length 6
    rw [cond_true, byRuns, if_pos (by simp [num]), if_neg (by simp [h6])]
    have e1 : ((1 :: (bitsOf (runsF U).length 6 ++ runsBits (runsF U)) ++ z).drop 1).take 6 = bitsOf (runsF U).length 6 := by
      rw [List.cons_append, List.drop_succ_cons, List.drop_zero, List.append_assoc, List.take_left' h6]
    have e2 : (1 :: (bitsOf (runsF U).length 6 ++ runsBits (runsF U)) ++ z).drop 7 = runsBits (runsF U) ++ z := by
      rw [List.cons_append, List.drop_succ_cons, List.append_assoc, List.drop_left' h6]
    have h7 := runs_len U
    have h8 := right_few hU
    rw [e1, e2, num6 (by omega), runs_back z _ (runs_all (p := (· < 64)) U fun v hv => by have := hU.2 v hv; show v < 64; omega), spans_runs]
  | false =>
    have hl := eachBit_len U (lastOf U)
    rw [cond_false, byEach, if_neg (by simp [num]), if_neg (by simp [hl]; omega)]
    rw [List.cons_append, List.drop_succ_cons, List.drop_zero, each_back hU]
theorem byteAt_bit {l : List Nat} (h : Bin l) (j r : Nat) (hr : r < 8) : byteAt l j / 2 ^ (7 - r) % 2 = l.getD (8 * j + r) 0 := by
  unfold byteAt
  have h0 := h.getD (8 * j); have h1 := h.getD (8 * j + 1); have h2 := h.getD (8 * j + 2); have h3 := h.getD (8 * j + 3)
  have h4 := h.getD (8 * j + 4); have h5 := h.getD (8 * j + 5); have h6 := h.getD (8 * j + 6); have h7 := h.getD (8 * j + 7)
  have hc : r = 0 ∨ r = 1 ∨ r = 2 ∨ r = 3 ∨ r = 4 ∨ r = 5 ∨ r = 6 ∨ r = 7 := by omega
  rcases hc with rfl | rfl | rfl | rfl | rfl | rfl | rfl | rfl <;> (try simp only [Nat.add_zero]) <;> omega
def pad (l : List Nat) : Nat := 8 * ((l.length + 7) / 8) - l.length
theorem tbits_pack {l : List Nat} (h : Bin l) : tbits (packT l) = l ++ List.replicate (pad l) 0 := by
  unfold packT
  have hlen : (tbits ((packB l).map UInt8.ofNat)).length = (l ++ List.replicate (pad l) 0).length := by
    rw [tbits_len]; simp [packB_len, pad]; omega
  apply List.ext_getElem hlen
  intro i h1 h2
  have hi : i < 8 * ((packB l).map UInt8.ofNat).length := by rw [← tbits_len]; exact h1
  have e := tbits_at _ i hi
  rw [List.getElem?_eq_getElem h1] at e
  have hq : i / 8 < (packB l).length := by simp at hi; omega
  have e2 : ((packB l).map UInt8.ofNat)[i / 8]'(by simpa using hq) = UInt8.ofNat (byteAt l (i / 8)) := by simp [packB]
  rw [Option.some.inj e, e2, UInt8.toNat_ofNat', Nat.mod_eq_of_lt (byteAt_lt h _), byteAt_bit h _ _ (by omega), Nat.div_add_mod]
  rw [List.getElem_append, List.getD_eq_getElem?_getD]
  by_cases hl : i < l.length
  · rw [dif_pos hl, List.getElem?_eq_getElem hl]; rfl
  · rw [dif_neg hl, List.getElem?_eq_none (by omega), List.getElem_replicate]; rfl
theorem purp_eq {P Q : Nat → Bool} (h : ∀ i, i < 10 → P i = Q i) : purpBits P 10 = purpBits Q 10 := List.map_congr_left fun i hi => by rw [h i (List.mem_range.1 hi)]
theorem conText_eq {g : Nat} {P Q : Nat → Bool} {U : List Nat} (h : ∀ i, i < 10 → P i = Q i) : conText g P U = conText g Q U := by
  unfold conText conBits headBits
  rw [purp_eq h]
section
variable {g : Nat} {P : Nat → Bool} {U : List Nat}
theorem parts_back (hg : g ≤ 68719476735) (hU : RightN U) (z : List Nat) : codeP (conBits g P U ++ z) = 0 ∧ given (conBits g P U ++ z) = g ∧ (∀ i, i < 10 → purp (conBits g P U ++ z) i = P i) ∧ vends (conBits g P U ++ z) = some U := by
  have l1 := bitsOf_len 1 6
  have l2 := bitsOf_len g 36
  have l3 := purpBits_len P 10
  have l4 := bitsOf_len (lastOf U) 6
  have hl40 := lastOf_le hU
  have e : conBits g P U ++ z = bitsOf 1 6 ++ (bitsOf g 36 ++ (purpBits P 10 ++ (bitsOf (lastOf U) 6 ++ (vendBits U ++ z)))) := by simp only [conBits, headBits, List.append_assoc]
  have d6 : (conBits g P U ++ z).drop 6 = bitsOf g 36 ++ (purpBits P 10 ++ (bitsOf (lastOf U) 6 ++ (vendBits U ++ z))) := by rw [e, List.drop_left' l1]
  have d42 : (conBits g P U ++ z).drop 42 = purpBits P 10 ++ (bitsOf (lastOf U) 6 ++ (vendBits U ++ z)) := by
    rw [show 42 = 6 + 36 from rfl, ← List.drop_drop, d6, List.drop_left' l2]
  have d52 : (conBits g P U ++ z).drop 52 = bitsOf (lastOf U) 6 ++ (vendBits U ++ z) := by
    rw [show 52 = 42 + 10 from rfl, ← List.drop_drop, d42, List.drop_left' l3]
  have d58 : (conBits g P U ++ z).drop 58 = vendBits U ++ z := by
    rw [show 58 = 52 + 6 from rfl, ← List.drop_drop, d52, List.drop_left' l4]
  have hlast : lastP (conBits g P U ++ z) = lastOf U := by
    unfold lastP
    rw [d52, List.take_left' l4, num6 (by omega)]
  have hv : vends (conBits g P U ++ z) = some U := by
    unfold vends
    rw [hlast, d58, vends_back hU]
  have hlen : 59 ≤ (conBits g P U ++ z).length := by
    unfold conBits
    rw [List.length_append, List.length_append, headBits_len]
    have : 1 ≤ (vendBits U).length := by
      unfold vendBits
      cases short U with
      | true => rw [cond_true, byRuns_len]; omega
      | false => rw [cond_false, byEach_len]; omega
    omega
  refine ⟨?_, ?_, ?_, hv⟩
  · unfold codeP
    have h6 : num ((conBits g P U ++ z).take 6) = 1 := by rw [e, List.take_left' l1]; decide
    rw [if_neg (by omega), if_neg (by rw [h6]; decide), if_neg (by omega), hv]
  · unfold given
    rw [d6, List.take_left' l2, num_bitsOf]
    exact Nat.mod_eq_of_lt (by simp; omega)
  · intro i hi
    unfold purp
    have e2 : (conBits g P U ++ z).drop (42 + i) = (purpBits P 10).drop i ++ (bitsOf (lastOf U) 6 ++ (vendBits U ++ z)) := by
      rw [← List.drop_drop, d42, List.drop_append_of_le_length (by omega)]
    have e3 : (purpBits P 10).drop i = (P i).toNat :: (purpBits P 10).drop (i + 1) := by
      have h : i < (purpBits P 10).length := by omega
      rw [List.drop_eq_getElem_cons h]
      congr 1
      simp [purpBits]
    rw [e2, e3, List.cons_append, List.take_succ_cons, List.take_zero]
    cases P i <;> rfl
/-- WHAT IS WRITTEN IS READ AS IT WAS. -/
theorem back (hg : g ≤ 68719476735) (hU : RightN U) : (readC (conText g P U)).1 = g ∧ (∀ i, i < 10 → (readC (conText g P U)).2.1 i = P i) ∧ (readC (conText g P U)).2.2.1 = U ∧ (readC (conText g P U)).2.2.2 = 0 := by
  have hlen : (packT (conBits g P U)).length ≤ 400 := by
    rw [packT_len]
    have := conBits_len g P U
    have := lastOf_le hU
    omega
  have hr := (read_write _ hlen).1
  obtain ⟨p1, p2, p3, p4⟩ := parts_back (P := P) hg hU (List.replicate (pad (conBits g P U)) 0)
  rw [← tbits_pack (conBits_bin g P U)] at p1 p2 p3 p4
  have e : readC (conText g P U) = (given (tbits (packT (conBits g P U))), purp (tbits (packT (conBits g P U))), U, 0) := by
    unfold readC
    rw [show readF (conText g P U) = (packT (conBits g P U), 0) from hr]
    dsimp only
    rw [if_neg (by simp), if_neg (by rw [p1]; simp), p4]
    unfold readL
    rw [Option.getD_some, if_pos ⟨by rw [p2]; exact nat_check hg hU, by rw [p2]; exact conText_eq p3⟩]
  rw [e]
  exact ⟨p2, p3, rfl, rfl⟩
end
/-- What is read is right, and written as it stood. -/
theorem read_right {t : List UInt8} (h : (readC t).2.2.2 = 0) : GrantP.check ((readC t).1 : Int) (toI (readC t).2.2.1) = 0 ∧ conText (readC t).1 (readC t).2.1 (readC t).2.2.1 = t := by
  unfold readC at h ⊢
  by_cases h1 : (readF t).2 ≠ 0
  · rw [if_pos h1] at h; exact absurd h h1
  · rw [if_neg h1] at h ⊢
    by_cases h2 : codeP (tbits (readF t).1) ≠ 0
    · rw [if_pos h2] at h; exact absurd h h2
    · rw [if_neg h2] at h ⊢
      unfold readL at h ⊢
      split at h
      · rename_i h3
        rw [if_pos h3]
        exact h3
      · cases h
theorem read_none {t : List UInt8} (h : (readC t).2.2.2 ≠ 0) : readC t = noRd (readC t).2.2.2 := by
  unfold readC at h ⊢
  by_cases h1 : (readF t).2 ≠ 0
  · rw [if_pos h1]; rfl
  · rw [if_neg h1] at h ⊢
    by_cases h2 : codeP (tbits (readF t).1) ≠ 0
    · rw [if_pos h2]; rfl
    · rw [if_neg h2] at h ⊢
      unfold readL at h ⊢
      split at h
      · exact absurd rfl h
      · rename_i h3
        rw [if_neg h3]; rfl
end Go.Proofs.YtfhfpanemalbmaaDoor.ConQ
