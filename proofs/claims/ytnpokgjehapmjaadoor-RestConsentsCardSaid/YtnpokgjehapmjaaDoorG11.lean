/- Texts of the proof, joined: CoP, AbsU, AbsZ. -/
import Derived.Test.YtnpokgjehapmjaaDoorG10
import Derived.Lib.Builder
import Derived.Lib.AppendStr
import Derived.Lib.UnsafeStr
import Derived.Lib.TrimU
import Derived.Laws.Externs
import Derived.Laws.Pointers
import Derived.LaidEqlPtr
import Derived.Laws.Cover4
import Derived.Laws.BytesArg
import Derived.ChangeKeysEq
section
namespace Go.Proofs.YtnpokgjehapmjaaDoor.ConP
open BitsP SixtyP SixtyQ

theorem snocI {α : Type} {p : List α → Prop} (h0 : p []) (h1 : ∀ l b, p l → p (l ++ [b])) : ∀ l, p l := fun l => by
  have key : ∀ r : List α, p r.reverse := fun r => by
    induction r with
    | nil => exact h0
    | cons b r ih => rw [List.reverse_cons]; exact h1 _ _ ih
  have := key l.reverse
  rwa [List.reverse_reverse] at this
/-! ### Runs -/
def consR (u : Nat) : List (Nat × Nat) → List (Nat × Nat)
  | [] => [(u, u)]
  | (a, b) :: r => if a = u + 1 then (u, b) :: r else (u, u) :: (a, b) :: r
def snocR : List (Nat × Nat) → Nat → List (Nat × Nat)
  | [], v => [(v, v)]
  | [(a, b)], v => if b + 1 = v then [(a, v)] else [(a, b), (v, v)]
  | p :: q :: r, v => p :: snocR (q :: r) v
def runsF : List Nat → List (Nat × Nat)
  | [] => []
  | u :: l => consR u (runsF l)
theorem snoc_cons (u v : Nat) : ∀ r : List (Nat × Nat), snocR (consR u r) v = consR u (snocR r v)
  | [] => by
    simp only [consR, snocR]
    by_cases h : u + 1 = v
    · rw [if_pos h, if_pos h.symm]
    · rw [if_neg h, if_neg fun e => h e.symm]
  | [(a, b)] => by
    simp only [consR, snocR]
    by_cases h1 : a = u + 1 <;> by_cases h2 : b + 1 = v <;> simp [h1, h2, snocR]
  | (a, b) :: q :: r => by
    simp only [consR, snocR]
    by_cases h1 : a = u + 1 <;> simp [h1, snocR]
theorem runs_snoc : ∀ (l : List Nat) (v : Nat), runsF (l ++ [v]) = snocR (runsF l) v
  | [], v => rfl
  | u :: l, v => by rw [List.cons_append, runsF, runsF, runs_snoc l v, snoc_cons]
theorem snocR_last : ∀ (d : List (Nat × Nat)) (a b v : Nat), snocR (d ++ [(a, b)]) v = if b + 1 = v then d ++ [(a, v)] else d ++ [(a, b)] ++ [(v, v)]
  | [], a, b, v => by simp [snocR]
  | [p], a, b, v => by
    show p :: snocR [(a, b)] v = _
    simp only [snocR]
    split <;> rfl
  | p :: q :: d, a, b, v => by
    have := snocR_last (q :: d) a b v
    show p :: snocR (q :: (d ++ [(a, b)])) v = _
    rw [show q :: (d ++ [(a, b)]) = (q :: d) ++ [(a, b)] from rfl, this]
    split <;> rfl
theorem runs_take {U : List Nat} {k v : Nat} (h : U[k]? = some v) : runsF (U.take (k + 1)) = snocR (runsF (U.take k)) v := by
  rw [List.take_add_one, h]
  exact runs_snoc _ _
theorem consR_len (u : Nat) : ∀ r, (consR u r).length ≤ r.length + 1
  | [] => by simp [consR]
  | (a, b) :: r => by simp only [consR]; split <;> simp
theorem runs_len : ∀ U : List Nat, (runsF U).length ≤ U.length
  | [] => Nat.le_refl _
  | u :: l => by
    have h1 := consR_len u (runsF l)
    have h2 := runs_len l
    rw [runsF, List.length_cons]; omega
/-- All that runs tell is of the list. -/
theorem snocR_all {p : Nat → Prop} (v : Nat) (hv : p v) : ∀ r : List (Nat × Nat), (∀ x ∈ r, p x.1 ∧ p x.2) → ∀ x ∈ snocR r v, p x.1 ∧ p x.2
  | [], _, x, hx => by simp only [snocR, List.mem_singleton] at hx; subst hx; exact ⟨hv, hv⟩
  | [(a, b)], h, x, hx => by
    have := h (a, b) (List.mem_singleton.2 rfl)
    simp only [snocR] at hx
    split at hx
    · simp only [List.mem_singleton] at hx; subst hx; exact ⟨this.1, hv⟩
    · simp only [List.mem_cons, List.not_mem_nil, or_false] at hx
      rcases hx with rfl | rfl
      · exact this
      · exact ⟨hv, hv⟩
  | y :: q :: r, h, x, hx => by
    simp only [snocR, List.mem_cons] at hx
    rcases hx with rfl | hx
    · exact h _ (List.mem_cons_self ..)
    · exact snocR_all v hv (q :: r) (fun z hz => h z (List.mem_cons_of_mem _ hz)) x (by simpa using hx)
theorem runs_all {p : Nat → Prop} (U : List Nat) (h : ∀ v ∈ U, p v) : ∀ x ∈ runsF U, p x.1 ∧ p x.2 := by
  refine snocI (p := fun U => (∀ v ∈ U, p v) → ∀ x ∈ runsF U, p x.1 ∧ p x.2) (fun _ x hx => by cases hx) (fun l b ih h => ?_) U h
  rw [runs_snoc]
  exact snocR_all b (h b (by simp)) _ (ih fun v hv => h v (List.mem_append_left _ hv))
/-- The last vendor; nought: none. -/
def lastOf (U : List Nat) : Nat := U.getLast?.getD 0
theorem snocR_end (v : Nat) : ∀ r, ((snocR r v).getLast?.map Prod.snd) = some v
  | [] => rfl
  | [(a, b)] => by simp only [snocR]; split <;> rfl
  | p :: q :: r => by
    have h := snocR_end v (q :: r)
    simp only [snocR]
    have hne : snocR (q :: r) v ≠ [] := fun e => by rw [e] at h; cases h
    rw [List.getLast?_cons_of_ne_nil hne]
    exact h
theorem runs_last (U : List Nat) : ((runsF U).getLast?.map Prod.snd).getD 0 = lastOf U := by
  refine snocI (p := fun U => ((runsF U).getLast?.map Prod.snd).getD 0 = lastOf U) rfl (fun l b _ => ?_) U
  rw [runs_snoc, snocR_end, lastOf]
  simp
/-! ### The bits of a run, of runs, of vendors -/
def sizeR (p : Nat × Nat) : Nat := if p.1 = p.2 then 7 else 13
def runBits (p : Nat × Nat) : List Nat := (!decide (p.1 = p.2)).toNat :: (bitsOf p.1 6 ++ if p.1 = p.2 then [] else bitsOf p.2 6)
theorem runBits_len (p : Nat × Nat) : (runBits p).length = sizeR p := by
  unfold runBits sizeR
  split <;> simp [bitsOf_len]
def sizes (r : List (Nat × Nat)) : Nat := r.foldl (fun n p => n + sizeR p) 0
theorem sizes_snoc (r : List (Nat × Nat)) (p : Nat × Nat) : sizes (r ++ [p]) = sizes r + sizeR p := by unfold sizes; rw [List.foldl_append]; rfl
def runsBits (r : List (Nat × Nat)) : List Nat := r.flatMap runBits
theorem runsBits_snoc (r : List (Nat × Nat)) (p : Nat × Nat) : runsBits (r ++ [p]) = runsBits r ++ runBits p := by simp [runsBits]
theorem runsBits_len (r : List (Nat × Nat)) : (runsBits r).length = sizes r := by
  refine snocI (p := fun r => (runsBits r).length = sizes r) rfl (fun r p ih => ?_) r
  rw [runsBits_snoc, sizes_snoc, List.length_append, ih, runBits_len]
theorem sizes_le (r : List (Nat × Nat)) : sizes r ≤ 13 * r.length := by
  refine snocI (p := fun r => sizes r ≤ 13 * r.length) (Nat.le_refl _) (fun r p ih => ?_) r
  rw [sizes_snoc, List.length_append, List.length_singleton]
  have : sizeR p ≤ 13 := by unfold sizeR; split <;> omega
  omega
theorem toNat_bin (b : Bool) : b.toNat < 2 := by cases b <;> decide
theorem cons_bin {b : Nat} {l : List Nat} (h : b < 2) (hl : Bin l) : Bin (b :: l) := fun x hx => by
  rcases List.mem_cons.1 hx with rfl | hx
  · exact h
  · exact hl x hx
theorem runBits_bin (p : Nat × Nat) : Bin (runBits p) := by
  unfold runBits
  refine cons_bin (toNat_bin _) ((bitsOf_bin _ _).app ?_)
  split
  · exact bin_nil
  · exact bitsOf_bin _ _
theorem runsBits_bin (r : List (Nat × Nat)) : Bin (runsBits r) := fun b hb => by
  obtain ⟨p, _, hp⟩ := List.mem_flatMap.1 hb
  exact runBits_bin p b hp
/-- A bit for each vendor up to n. -/
def eachBit (U : List Nat) (n : Nat) : List Nat := (List.range n).map fun i => (U.contains (i + 1)).toNat
theorem eachBit_succ (U : List Nat) (n : Nat) : eachBit U (n + 1) = eachBit U n ++ [(U.contains (n + 1)).toNat] := by simp [eachBit, List.range_succ]
theorem eachBit_len (U : List Nat) (n : Nat) : (eachBit U n).length = n := by simp [eachBit]
theorem eachBit_bin (U : List Nat) (n : Nat) : Bin (eachBit U n) := fun b hb => by
  obtain ⟨i, _, rfl⟩ := List.mem_map.1 hb
  exact toNat_bin _
def byRuns (U : List Nat) : List Nat := 1 :: (bitsOf (runsF U).length 6 ++ runsBits (runsF U))
def byEach (U : List Nat) : List Nat := 0 :: eachBit U (lastOf U)
/-- Shorter by runs? -/
def short (U : List Nat) : Bool := decide (6 + sizes (runsF U) < lastOf U)
def vendBits (U : List Nat) : List Nat := bif short U then byRuns U else byEach U
theorem byRuns_len (U : List Nat) : (byRuns U).length = 7 + sizes (runsF U) := by simp [byRuns, bitsOf_len, runsBits_len]; omega
theorem byEach_len (U : List Nat) : (byEach U).length = 1 + lastOf U := by simp [byEach, eachBit_len]; omega
theorem vendBits_len (U : List Nat) : (vendBits U).length ≤ 1 + lastOf U := by
  unfold vendBits
  cases h : short U with
  | false => rw [cond_false, byEach_len]; exact Nat.le_refl _
  | true =>
    rw [cond_true, byRuns_len]
    unfold short at h
    have := of_decide_eq_true h
    omega
theorem vendBits_bin (U : List Nat) : Bin (vendBits U) := by
  unfold vendBits
  cases short U with
  | true => exact cons_bin (by decide) ((bitsOf_bin _ _).app (runsBits_bin _))
  | false => exact cons_bin (by decide) (eachBit_bin _ _)
def purpBits (P : Nat → Bool) (n : Nat) : List Nat := (List.range n).map fun i => (P i).toNat
theorem purpBits_succ (P : Nat → Bool) (n : Nat) : purpBits P (n + 1) = purpBits P n ++ [(P n).toNat] := by simp [purpBits, List.range_succ]
theorem purpBits_len (P : Nat → Bool) (n : Nat) : (purpBits P n).length = n := by simp [purpBits]
theorem purpBits_bin (P : Nat → Bool) (n : Nat) : Bin (purpBits P n) := fun b hb => by
  obtain ⟨i, _, rfl⟩ := List.mem_map.1 hb
  exact toNat_bin _
def headBits (g : Nat) (P : Nat → Bool) (U : List Nat) : List Nat := bitsOf 1 6 ++ bitsOf g 36 ++ purpBits P 10 ++ bitsOf (lastOf U) 6
def conBits (g : Nat) (P : Nat → Bool) (U : List Nat) : List Nat := headBits g P U ++ vendBits U
theorem headBits_len (g : Nat) (P : Nat → Bool) (U : List Nat) : (headBits g P U).length = 58 := by simp [headBits, bitsOf_len, purpBits_len]
theorem headBits_bin (g : Nat) (P : Nat → Bool) (U : List Nat) : Bin (headBits g P U) := (((bitsOf_bin _ _).app (bitsOf_bin _ _)).app (purpBits_bin _ _)).app (bitsOf_bin _ _)
theorem conBits_bin (g : Nat) (P : Nat → Bool) (U : List Nat) : Bin (conBits g P U) := (headBits_bin g P U).app (vendBits_bin U)
theorem conBits_len (g : Nat) (P : Nat → Bool) (U : List Nat) : (conBits g P U).length ≤ 59 + lastOf U := by
  unfold conBits
  rw [List.length_append, headBits_len]
  have := vendBits_len U
  omega
/-- Bits as bytes. -/
def packT (l : List Nat) : List UInt8 := (packB l).map UInt8.ofNat
theorem packT_len (l : List Nat) : (packT l).length = (l.length + 7) / 8 := by simp [packT, packB_len]
/-- A consent's text. -/
def conText (g : Nat) (P : Nat → Bool) (U : List Nat) : List UInt8 := enc6 (tbits (packT (conBits g P U)))

/-! ### Right vendors -/
def RightN (U : List Nat) : Prop := U.Pairwise (· < ·) ∧ ∀ v ∈ U, 1 ≤ v ∧ v ≤ 40
theorem lastOf_le {U : List Nat} (h : RightN U) : lastOf U ≤ 40 := by
  unfold lastOf
  cases hl : U.getLast? with
  | none => simp
  | some v => exact (h.2 v (List.mem_of_getLast? hl)).2
theorem right_len : ∀ (U : List Nat) (a : Nat), U.Pairwise (· < ·) → (∀ v ∈ U, a ≤ v ∧ v ≤ 40) → a ≤ 41 → U.length + a ≤ 41
  | [], a, _, _, ha => by simp only [List.length_nil]; omega
  | u :: l, a, h, hr, _ => by
    obtain ⟨h1, h2⟩ := List.pairwise_cons.1 h
    have hu := hr u (List.mem_cons_self ..)
    have := right_len l (u + 1) h2 (fun v hv => ⟨h1 v hv, (hr v (List.mem_cons_of_mem _ hv)).2⟩) (by omega)
    rw [List.length_cons]; omega
theorem right_few {U : List Nat} (h : RightN U) : U.length ≤ 40 := by
  have := right_len U 1 h.1 h.2 (by omega)
  omega
theorem lastOf_mem (x : Nat) (l : List Nat) : lastOf (x :: l) ∈ x :: l := by
  unfold lastOf
  cases h : (x :: l).getLast? with
  | none => simp at h
  | some v => exact List.mem_of_getLast? h
theorem lastOf_cons (u x : Nat) (l : List Nat) : lastOf (u :: x :: l) = lastOf (x :: l) := by
  unfold lastOf; rw [List.getLast?_cons_cons]
/-- The walk along vendors and numbers at once. -/
theorem tw_step : ∀ (U : List Nat) (i : Nat), U.Pairwise (· < ·) → i < lastOf U → ∃ h, U[(U.takeWhile (fun x => decide (x ≤ i))).length]? = some h ∧ decide (h = i + 1) = U.contains (i + 1) ∧ (U.takeWhile (fun x => decide (x ≤ i + 1))).length = (U.takeWhile (fun x => decide (x ≤ i))).length + (decide (h = i + 1)).toNat
  | [], i, _, h => by simp [lastOf] at h
  | u :: l, i, hp, hi => by
    obtain ⟨h1, h2⟩ := List.pairwise_cons.1 hp
    by_cases hu : u ≤ i
    · have hl : i < lastOf l := by
        cases l with
        | nil => simp [lastOf] at hi; omega
        | cons x l => simpa [lastOf] using hi
      obtain ⟨h, e1, e2, e3⟩ := tw_step l i h2 hl
      refine ⟨h, ?_, ?_, ?_⟩
      · rw [List.takeWhile_cons_of_pos (by simpa using hu), List.length_cons, List.getElem?_cons_succ]; exact e1
      · rw [e2, List.contains_cons, show (i + 1 == u) = false from by simp; omega, Bool.false_or]
      · rw [List.takeWhile_cons_of_pos (by simp; omega), List.takeWhile_cons_of_pos (by simpa using hu), List.length_cons, List.length_cons, e3]; omega
    · have e0 : (u :: l).takeWhile (fun x => decide (x ≤ i)) = [] := List.takeWhile_cons_of_neg (by simpa using hu)
      rw [e0]
      refine ⟨u, rfl, ?_, ?_⟩
      · by_cases hc : u = i + 1
        · subst hc; simp
        · rw [decide_eq_false hc]
          symm
          rw [← Bool.not_eq_true, List.contains_iff_mem]
          intro hm
          rcases List.mem_cons.1 hm with e | hm
          · exact hc e.symm
          · have := h1 _ hm; omega
      · by_cases hc : u = i + 1
        · rw [List.takeWhile_cons_of_pos (by simp; omega), decide_eq_true hc]
          have : l.takeWhile (fun x => decide (x ≤ i + 1)) = [] := by
            cases l with
            | nil => rfl
            | cons x l => have := h1 x (List.mem_cons_self ..); exact List.takeWhile_cons_of_neg (by simp; omega)
          rw [this]; rfl
        · rw [List.takeWhile_cons_of_neg (by simp; omega), decide_eq_false hc]; rfl

/-! ### The document's runs -/
def endF (U : List Nat) : Nat → Nat → Nat
  | 0, e => e
  | n + 1, e => if U.contains (e + 1) then endF U n (e + 1) else e
def begR (U : List Nat) (v : Nat) : List (Nat × Nat) := if U.contains v && !U.contains (v - 1) then [(v, endF U 41 v)] else []
def docRuns (U : List Nat) (n : Nat) : List (Nat × Nat) := (List.range' 1 n).flatMap (begR U)
end Go.Proofs.YtnpokgjehapmjaaDoor.ConP
namespace Go.Proofs.YtnpokgjehapmjaaDoor.ConQ
open BitsP SixtyP SixtyQ ConP

def spanV (a b : Nat) : List Nat := List.range' a (b + 1 - a)
def runsP : Nat → List Nat → Option (List Nat)
  | 0, _ => some []
  | n + 1, l => if l.length < 7 then none
    else if num (l.take 1) = 1 then (if l.length < 13 then none else (runsP n (l.drop 13)).map (spanV (num ((l.drop 1).take 6)) (num ((l.drop 7).take 6)) ++ ·))
    else (runsP n (l.drop 7)).map (spanV (num ((l.drop 1).take 6)) (num ((l.drop 1).take 6)) ++ ·)
def eachP (n : Nat) (l : List Nat) : List Nat := ((List.range n).filter fun i => decide (l.getD i 0 = 1)).map (· + 1)
theorem eachP_succ (n : Nat) (l : List Nat) : eachP (n + 1) l = eachP n l ++ if l.getD n 0 = 1 then [n + 1] else [] := by
  unfold eachP
  rw [List.range_succ, List.filter_append, List.map_append]
  congr 1
  by_cases h : l.getD n 0 = 1
  · rw [if_pos h, List.filter_cons_of_pos (by simpa using h)]; rfl
  · rw [if_neg h, List.filter_cons_of_neg (by simpa using h)]; rfl
theorem eachP_len (n : Nat) (l : List Nat) : (eachP n l).length ≤ n := by
  unfold eachP
  rw [List.length_map]
  exact Nat.le_trans (List.length_filter_le _ _) (by simp)
/-- Vendors of the bits behind 'last'. -/
def vendsP (last : Nat) (l : List Nat) : Option (List Nat) :=
  if num (l.take 1) = 1 then (if l.length < 7 then none else runsP (num ((l.drop 1).take 6)) (l.drop 7))
  else if l.length < 1 + last then none else some (eachP last (l.drop 1))
def given (l : List Nat) : Nat := num ((l.drop 6).take 36)
def purp (l : List Nat) (i : Nat) : Bool := decide (num ((l.drop (42 + i)).take 1) = 1)
def lastP (l : List Nat) : Nat := num ((l.drop 52).take 6)
def vends (l : List Nat) : Option (List Nat) := vendsP (lastP l) (l.drop 58)
/-- The fault of bits; nought: none. -/
def codeP (l : List Nat) : Nat := if l.length < 6 then 5 else if num (l.take 6) ≠ 1 then 7 else if l.length < 59 then 5 else match vends l with
  | none => 5
  | some _ => 0
abbrev Rd := Nat × (Nat → Bool) × List Nat × Nat
def noRd (c : Nat) : Rd := (0, fun _ => false, [], c)
abbrev toI (U : List Nat) : List Int := U.map fun n : Nat => (n : Int)
def readL (t : List UInt8) (l : List Nat) (U : List Nat) : Rd := if GrantP.check (given l : Int) (toI U) = 0 ∧ conText (given l) (purp l) U = t then (given l, purp l, U, 0) else noRd 1
def readC (t : List UInt8) : Rd :=
  if (readF t).2 ≠ 0 then noRd (readF t).2
  else if codeP (tbits (readF t).1) ≠ 0 then noRd (codeP (tbits (readF t).1))
  else readL t (tbits (readF t).1) ((vends (tbits (readF t).1)).getD [])

/-! ### Right ones -/
theorem right_toI {U : List Nat} : GrantP.Right (toI U) ↔ RightN U := by
  unfold GrantP.Right RightN
  rw [List.pairwise_map]
  constructor
  · rintro ⟨h1, h2⟩
    exact ⟨h1.imp fun h => by omega, fun v hv => by have := h2 (v : Int) (List.mem_map.2 ⟨v, hv, rfl⟩); omega⟩
  · rintro ⟨h1, h2⟩
    refine ⟨h1.imp fun h => by omega, fun v hv => ?_⟩
    obtain ⟨n, hn, rfl⟩ := List.mem_map.1 hv
    have := h2 n hn
    omega
theorem check_iff {g : Int} {L : List Int} : GrantP.check g L = 0 ↔ (0 ≤ g ∧ g ≤ 68719476735) ∧ GrantP.Right L := by
  unfold GrantP.check GrantP.codeG
  by_cases h : g < 0 ∨ 68719476735 < g
  · rw [if_pos h, if_neg (by decide)]
    constructor
    · intro h; cases h
    · intro h; omega
  · rw [if_neg h, if_pos rfl]
    constructor
    · intro h2; exact ⟨by omega, GrantP.right_of h2⟩
    · intro h2; exact GrantP.of_right h2.2
theorem right_nat {L : List Int} (h : GrantP.Right L) : ∃ U, L = toI U ∧ RightN U := by
  have e : L = toI (L.map Int.toNat) := by
    unfold toI
    rw [List.map_map]
    conv => lhs; rw [← List.map_id L]
    refine List.map_congr_left fun v hv => ?_
    have := h.2 v hv
    simp only [id, Function.comp]
    omega
  exact ⟨_, e, right_toI.1 (e ▸ h)⟩
/-- A right consent is one of natural numbers. -/
theorem check_nat {g : Int} {L : List Int} (h : GrantP.check g L = 0) : ∃ (n : Nat) (U : List Nat), g = (n : Int) ∧ L = toI U ∧ n ≤ 68719476735 ∧ RightN U := by
  obtain ⟨h1, h2⟩ := check_iff.1 h
  obtain ⟨U, e, hU⟩ := right_nat h2
  exact ⟨g.toNat, U, by omega, e, by omega, hU⟩
theorem nat_check {n : Nat} {U : List Nat} (h1 : n ≤ 68719476735) (h2 : RightN U) : GrantP.check (n : Int) (toI U) = 0 := check_iff.2 ⟨by omega, right_toI.2 h2⟩

/-! ### What is written is read as it was -/
theorem ext_sorted : ∀ {a b : List Nat}, a.Pairwise (· < ·) → b.Pairwise (· < ·) → (∀ x, x ∈ a ↔ x ∈ b) → a = b
  | [], [], _, _, _ => rfl
  | [], y :: b, _, _, h => by have := (h y).2 List.mem_cons_self; cases this
  | x :: a, [], _, _, h => by have := (h x).1 List.mem_cons_self; cases this
  | x :: a, y :: b, ha, hb, h => by
    have ha' := List.pairwise_cons.1 ha
    have hb' := List.pairwise_cons.1 hb
    have e : x = y := by
      have h1 := (h x).1 List.mem_cons_self
      have h2 := (h y).2 List.mem_cons_self
      rcases List.mem_cons.1 h1 with e | h1
      · exact e
      · rcases List.mem_cons.1 h2 with e | h2
        · exact e.symm
        · have := hb'.1 x h1; have := ha'.1 y h2; omega
    subst e
    refine congrArg (x :: ·) (ext_sorted ha'.2 hb'.2 fun z => ?_)
    constructor
    · intro hz
      rcases List.mem_cons.1 ((h z).1 (List.mem_cons_of_mem _ hz)) with e | h1
      · subst e; have := ha'.1 z hz; omega
      · exact h1
    · intro hz
      rcases List.mem_cons.1 ((h z).2 (List.mem_cons_of_mem _ hz)) with e | h1
      · subst e; have := hb'.1 z hz; omega
      · exact h1
theorem each_back {U : List Nat} (hU : RightN U) (z : List Nat) : eachP (lastOf U) (eachBit U (lastOf U) ++ z) = U := by
  refine ext_sorted ?_ hU.1 fun x => ?_
  · unfold eachP
    rw [List.pairwise_map]
    exact (List.pairwise_lt_range.filter _).imp fun h => by omega
  · have bit : ∀ i, i < lastOf U → (eachBit U (lastOf U) ++ z).getD i 0 = (U.contains (i + 1)).toNat := fun i hi => by
      rw [List.getD_eq_getElem?_getD, List.getElem?_append_left (by rw [eachBit_len]; exact hi)]
      simp [eachBit, hi]
    unfold eachP
    rw [List.mem_map]
    constructor
    · rintro ⟨i, hi, rfl⟩
      obtain ⟨h1, h2⟩ := List.mem_filter.1 hi
      rw [List.mem_range] at h1
      have h3 := of_decide_eq_true h2
      rw [bit i h1] at h3
      rw [← List.contains_iff_mem]
      cases hc : U.contains (i + 1) with
      | true => rfl
      | false => rw [hc] at h3; cases h3
    · intro hx
      have h1 := hU.2 x hx
      have h2 : x ≤ lastOf U := by
        have key : ∀ (U : List Nat), U.Pairwise (· < ·) → ∀ x ∈ U, x ≤ lastOf U := by
          intro U
          induction U with
          | nil => intro _ x hx; cases hx
          | cons u l ih =>
            intro hp x hx
            obtain ⟨p1, p2⟩ := List.pairwise_cons.1 hp
            cases l with
            | nil => rw [List.mem_singleton.1 hx]; simp [lastOf]
            | cons y l =>
              rw [lastOf_cons]
              rcases List.mem_cons.1 hx with rfl | hx
              · have := p1 _ (lastOf_mem y l); omega
              · exact ih p2 x hx
        exact key U hU.1 x hx
      refine ⟨x - 1, List.mem_filter.2 ⟨List.mem_range.2 (by omega), ?_⟩, by omega⟩
      rw [bit (x - 1) (by omega), show x - 1 + 1 = x from by omega, show U.contains x = true from by simpa using hx]
      rfl
theorem runs_le : ∀ U : List Nat, ∀ x ∈ runsF U, x.1 ≤ x.2
  | [], x, hx => by cases hx
  | u :: l, x, hx => by
    have ih := runs_le l
    rw [runsF] at hx
    cases hr : runsF l with
    | nil => rw [hr] at hx; simp only [consR, List.mem_singleton] at hx; subst hx; exact Nat.le_refl _
    | cons p r =>
      obtain ⟨a, b⟩ := p
      rw [hr] at hx ih
      have hab : a ≤ b := ih (a, b) (List.mem_cons_self ..)
      simp only [consR] at hx
      split at hx
      · rcases List.mem_cons.1 hx with rfl | hx
        · show u ≤ b; omega
        · exact ih x (List.mem_cons_of_mem _ hx)
      · rcases List.mem_cons.1 hx with rfl | hx
        · exact Nat.le_refl _
        · exact ih x hx
def spans (r : List (Nat × Nat)) : List Nat := r.flatMap fun p => spanV p.1 p.2
theorem spans_runs : ∀ U : List Nat, spans (runsF U) = U
  | [] => rfl
  | u :: l => by
    have ih := spans_runs l
    have hle := runs_le l
    rw [runsF]
    cases hr : runsF l with
    | nil =>
      rw [hr] at ih
      have : l = [] := ih.symm
      subst this
      simp [consR, spans, spanV, List.range'_succ]
    | cons p r =>
      obtain ⟨a, b⟩ := p
      rw [hr] at ih hle
      have hab : a ≤ b := hle (a, b) (List.mem_cons_self ..)
      simp only [consR]
      split
      · rename_i e
        rw [← ih]
        simp only [spans, List.flatMap_cons, spanV]
        rw [show b + 1 - u = (b + 1 - a) + 1 from by omega, List.range'_succ, List.cons_append, e]
      · rw [← ih]
        simp only [spans, List.flatMap_cons, spanV]
        rw [show u + 1 - u = 0 + 1 from by omega, List.range'_succ]
        rfl
theorem num6 {n : Nat} (h : n < 64) : num (bitsOf n 6) = n := by rw [num_bitsOf]; exact Nat.mod_eq_of_lt (by simpa using h)
theorem runs_back (z : List Nat) : ∀ r : List (Nat × Nat), (∀ x ∈ r, x.1 < 64 ∧ x.2 < 64) → runsP r.length (runsBits r ++ z) = some (spans r)
  | [], _ => rfl
  | p :: r, h => by
    have ih := runs_back z r fun x hx => h x (List.mem_cons_of_mem _ hx)
    obtain ⟨h1, h2⟩ := h p (List.mem_cons_self ..)
    have l1 := bitsOf_len p.1 6
    have l2 := bitsOf_len p.2 6
    have e : runsBits (p :: r) ++ z = runBits p ++ (runsBits r ++ z) := by simp [runsBits]
    rw [e, List.length_cons, runsP]
    unfold runBits
    by_cases hp : p.1 = p.2
    · have hn : (!decide (p.1 = p.2)).toNat = 0 := by rw [decide_eq_true hp]; rfl
      rw [if_pos hp, List.append_nil, hn, if_neg (by rw [List.length_append, List.length_cons, l1]; omega), if_neg (by simp [num])]
      have e1 : (0 :: bitsOf p.1 6 ++ (runsBits r ++ z)).drop 7 = runsBits r ++ z := by
        rw [List.cons_append, List.drop_succ_cons, List.drop_left' l1]
      have e2 : ((0 :: bitsOf p.1 6 ++ (runsBits r ++ z)).drop 1).take 6 = bitsOf p.1 6 := by
        rw [List.cons_append, List.drop_succ_cons, List.drop_zero, List.take_left' l1]
      rw [e1, e2, ih, num6 h1]
      simp [spans, hp]
    · have hn : (!decide (p.1 = p.2)).toNat = 1 := by rw [decide_eq_false hp]; rfl
      rw [if_neg hp, hn, if_neg (by simp [l1, l2]), if_pos (by simp [num]), if_neg (by simp [l1, l2]; omega)]
      have e1 : (1 :: (bitsOf p.1 6 ++ bitsOf p.2 6) ++ (runsBits r ++ z)).drop 13 = runsBits r ++ z := by
        rw [List.cons_append, List.drop_succ_cons, List.drop_left' (by rw [List.length_append, l1, l2])]
      have e2 : ((1 :: (bitsOf p.1 6 ++ bitsOf p.2 6) ++ (runsBits r ++ z)).drop 1).take 6 = bitsOf p.1 6 := by
        rw [List.cons_append, List.drop_succ_cons, List.drop_zero, List.append_assoc, List.take_left' l1]
      have e3 : ((1 :: (bitsOf p.1 6 ++ bitsOf p.2 6) ++ (runsBits r ++ z)).drop 7).take 6 = bitsOf p.2 6 := by
        rw [List.cons_append, List.drop_succ_cons, List.append_assoc, List.drop_left' l1, List.take_left' l2]
      rw [e1, e2, e3, ih, num6 h1, num6 h2]
      simp [spans]
theorem vends_back {U : List Nat} (hU : RightN U) (z : List Nat) : vendsP (lastOf U) (vendBits U ++ z) = some U := by
  unfold vendsP vendBits
  cases short U with
  | true =>
    have h6 := bitsOf_len (runsF U).length 6
    rw [cond_true, byRuns, if_pos (by simp [num]), if_neg (by simp [h6])]
    have e1 : ((1 :: (bitsOf (runsF U).length 6 ++ runsBits (runsF U)) ++ z).drop 1).take 6 = bitsOf (runsF U).length 6 := by
      rw [List.cons_append, List.drop_succ_cons, List.drop_zero, List.append_assoc, List.take_left' h6]
    have e2 : (1 :: (bitsOf (runsF U).length 6 ++ runsBits (runsF U)) ++ z).drop 7 = runsBits (runsF U) ++ z := by
      rw [List.cons_append, List.drop_succ_cons, List.append_assoc, List.drop_left' h6]
    have h7 := runs_len U
    have h8 := right_few hU
    rw [e1, e2, num6 (by omega), runs_back z _ (runs_all (p := (· < 64)) U fun v hv => by have := hU.2 v hv; show v < 64; omega), spans_runs]
  | false =>
    have hl := eachBit_len U (lastOf U)
    rw [cond_false, byEach, if_neg (by simp [num]), if_neg (by simp [hl]; omega)]
    rw [List.cons_append, List.drop_succ_cons, List.drop_zero, each_back hU]
theorem byteAt_bit {l : List Nat} (h : Bin l) (j r : Nat) (hr : r < 8) : byteAt l j / 2 ^ (7 - r) % 2 = l.getD (8 * j + r) 0 := by
  unfold byteAt
  have h0 := h.getD (8 * j); have h1 := h.getD (8 * j + 1); have h2 := h.getD (8 * j + 2); have h3 := h.getD (8 * j + 3)
  have h4 := h.getD (8 * j + 4); have h5 := h.getD (8 * j + 5); have h6 := h.getD (8 * j + 6); have h7 := h.getD (8 * j + 7)
  have hc : r = 0 ∨ r = 1 ∨ r = 2 ∨ r = 3 ∨ r = 4 ∨ r = 5 ∨ r = 6 ∨ r = 7 := by omega
  rcases hc with rfl | rfl | rfl | rfl | rfl | rfl | rfl | rfl <;> (try simp only [Nat.add_zero]) <;> omega
def pad (l : List Nat) : Nat := 8 * ((l.length + 7) / 8) - l.length
theorem tbits_pack {l : List Nat} (h : Bin l) : tbits (packT l) = l ++ List.replicate (pad l) 0 := by
  unfold packT
  have hlen : (tbits ((packB l).map UInt8.ofNat)).length = (l ++ List.replicate (pad l) 0).length := by
    rw [tbits_len]; simp [packB_len, pad]; omega
  apply List.ext_getElem hlen
  intro i h1 h2
  have hi : i < 8 * ((packB l).map UInt8.ofNat).length := by rw [← tbits_len]; exact h1
  have e := tbits_at _ i hi
  rw [List.getElem?_eq_getElem h1] at e
  have hq : i / 8 < (packB l).length := by simp at hi; omega
  have e2 : ((packB l).map UInt8.ofNat)[i / 8]'(by simpa using hq) = UInt8.ofNat (byteAt l (i / 8)) := by simp [packB]
  rw [Option.some.inj e, e2, UInt8.toNat_ofNat', Nat.mod_eq_of_lt (byteAt_lt h _), byteAt_bit h _ _ (by omega), Nat.div_add_mod]
  rw [List.getElem_append, List.getD_eq_getElem?_getD]
  by_cases hl : i < l.length
  · rw [dif_pos hl, List.getElem?_eq_getElem hl]; rfl
  · rw [dif_neg hl, List.getElem?_eq_none (by omega), List.getElem_replicate]; rfl
theorem purp_eq {P Q : Nat → Bool} (h : ∀ i, i < 10 → P i = Q i) : purpBits P 10 = purpBits Q 10 := List.map_congr_left fun i hi => by rw [h i (List.mem_range.1 hi)]
theorem conText_eq {g : Nat} {P Q : Nat → Bool} {U : List Nat} (h : ∀ i, i < 10 → P i = Q i) : conText g P U = conText g Q U := by
  unfold conText conBits headBits
  rw [purp_eq h]
section
variable {g : Nat} {P : Nat → Bool} {U : List Nat}
theorem parts_back (hg : g ≤ 68719476735) (hU : RightN U) (z : List Nat) : codeP (conBits g P U ++ z) = 0 ∧ given (conBits g P U ++ z) = g ∧ (∀ i, i < 10 → purp (conBits g P U ++ z) i = P i) ∧ vends (conBits g P U ++ z) = some U := by
  have l1 := bitsOf_len 1 6
  have l2 := bitsOf_len g 36
  have l3 := purpBits_len P 10
  have l4 := bitsOf_len (lastOf U) 6
  have hl40 := lastOf_le hU
  have e : conBits g P U ++ z = bitsOf 1 6 ++ (bitsOf g 36 ++ (purpBits P 10 ++ (bitsOf (lastOf U) 6 ++ (vendBits U ++ z)))) := by simp only [conBits, headBits, List.append_assoc]
  have d6 : (conBits g P U ++ z).drop 6 = bitsOf g 36 ++ (purpBits P 10 ++ (bitsOf (lastOf U) 6 ++ (vendBits U ++ z))) := by rw [e, List.drop_left' l1]
  have d42 : (conBits g P U ++ z).drop 42 = purpBits P 10 ++ (bitsOf (lastOf U) 6 ++ (vendBits U ++ z)) := by
    rw [show 42 = 6 + 36 from rfl, ← List.drop_drop, d6, List.drop_left' l2]
  have d52 : (conBits g P U ++ z).drop 52 = bitsOf (lastOf U) 6 ++ (vendBits U ++ z) := by
    rw [show 52 = 42 + 10 from rfl, ← List.drop_drop, d42, List.drop_left' l3]
  have d58 : (conBits g P U ++ z).drop 58 = vendBits U ++ z := by
    rw [show 58 = 52 + 6 from rfl, ← List.drop_drop, d52, List.drop_left' l4]
  have hlast : lastP (conBits g P U ++ z) = lastOf U := by
    unfold lastP
    rw [d52, List.take_left' l4, num6 (by omega)]
  have hv : vends (conBits g P U ++ z) = some U := by
    unfold vends
    rw [hlast, d58, vends_back hU]
  have hlen : 59 ≤ (conBits g P U ++ z).length := by
    unfold conBits
    rw [List.length_append, List.length_append, headBits_len]
    have : 1 ≤ (vendBits U).length := by
      unfold vendBits
      cases short U with
      | true => rw [cond_true, byRuns_len]; omega
      | false => rw [cond_false, byEach_len]; omega
    omega
  refine ⟨?_, ?_, ?_, hv⟩
  · unfold codeP
    have h6 : num ((conBits g P U ++ z).take 6) = 1 := by rw [e, List.take_left' l1]; decide
    rw [if_neg (by omega), if_neg (by rw [h6]; decide), if_neg (by omega), hv]
  · unfold given
    rw [d6, List.take_left' l2, num_bitsOf]
    exact Nat.mod_eq_of_lt (by simp; omega)
  · intro i hi
    unfold purp
    have e2 : (conBits g P U ++ z).drop (42 + i) = (purpBits P 10).drop i ++ (bitsOf (lastOf U) 6 ++ (vendBits U ++ z)) := by
      rw [← List.drop_drop, d42, List.drop_append_of_le_length (by omega)]
    have e3 : (purpBits P 10).drop i = (P i).toNat :: (purpBits P 10).drop (i + 1) := by
      have h : i < (purpBits P 10).length := by omega
      rw [List.drop_eq_getElem_cons h]
      congr 1
      simp [purpBits]
    rw [e2, e3, List.cons_append, List.take_succ_cons, List.take_zero]
    cases P i <;> rfl
/-- WHAT IS WRITTEN IS READ AS IT WAS. -/
theorem back (hg : g ≤ 68719476735) (hU : RightN U) : (readC (conText g P U)).1 = g ∧ (∀ i, i < 10 → (readC (conText g P U)).2.1 i = P i) ∧ (readC (conText g P U)).2.2.1 = U ∧ (readC (conText g P U)).2.2.2 = 0 := by
  have hlen : (packT (conBits g P U)).length ≤ 400 := by
    rw [packT_len]
    have := conBits_len g P U
    have := lastOf_le hU
    omega
  have hr := (read_write _ hlen).1
  obtain ⟨p1, p2, p3, p4⟩ := parts_back (P := P) hg hU (List.replicate (pad (conBits g P U)) 0)
  rw [← tbits_pack (conBits_bin g P U)] at p1 p2 p3 p4
  have e : readC (conText g P U) = (given (tbits (packT (conBits g P U))), purp (tbits (packT (conBits g P U))), U, 0) := by
    unfold readC
    rw [show readF (conText g P U) = (packT (conBits g P U), 0) from hr]
    dsimp only
    rw [if_neg (by simp), if_neg (by rw [p1]; simp), p4]
    unfold readL
    rw [Option.getD_some, if_pos ⟨by rw [p2]; exact nat_check hg hU, by rw [p2]; exact conText_eq p3⟩]
  rw [e]
  exact ⟨p2, p3, rfl, rfl⟩
end
theorem read_none {t : List UInt8} (h : (readC t).2.2.2 ≠ 0) : readC t = noRd (readC t).2.2.2 := by
  unfold readC at h ⊢
  by_cases h1 : (readF t).2 ≠ 0
  · rw [if_pos h1]; rfl
  · rw [if_neg h1] at h ⊢
    by_cases h2 : codeP (tbits (readF t).1) ≠ 0
    · rw [if_pos h2]; rfl
    · rw [if_neg h2] at h ⊢
      unfold readL at h ⊢
      split at h
      · exact absurd rfl h
      · rename_i h3
        rw [if_neg h3]; rfl
end Go.Proofs.YtnpokgjehapmjaaDoor.ConQ
end

section
namespace Go.Proofs.YtnpokgjehapmjaaDoor.Abs
open Go.RowKit Mem Facts

section
variable {X A A' : Nat → Prop} {φ φ' : Nat → Pl} {w w' : World} {P : Program} {tb : List Ty} {T : Nat} {e ee : Ty} {N : Env} {M : Nat → Prop} {o : Oper} {s : S} {a : Act}

/-! ### Ranging over a text -/
theorem und_str {ti : TypeInfo} {d : TypeDesc} (ht : TyIs P T e ti d) (hk : Nat.beq e.knd 2 = true) : P.underlying T = some .string := by
  have : d = .string := kind_str ((Nat.eq_of_beq_eq_true hk).symm.trans ht.knd)
  rw [ht.und, this]
/-! ### Pointers -/
variable {t' : TypeId} {x y : Operand}
/-! ### A pointer as a raw one, and back -/
/-! ### A text's bytes onto bytes -/
variable {Tu el : Nat} {es : Ty} {l : List UInt8}
/-! ### A text out of bytes that nobody writes any more -/
/-! ### A call without a body that gives its argument -/
end
section
variable {P : Program} {N : Env} {l r : List Oper} {o : Oper} {tm : List (Nat × V)} {st : List (Nat × Option Blk)} {nx nt : Nat} {tr : List Tr} {K : S → List Tr → Prop} {fp : Fp} {v : V}
end
/-! ### A nil slice within a row may be named -/
def nameAt (ν : Nat) : Nat → List V → Option (List V)
  | 0, .nils :: r => some (.own ν 0 0 :: r)
  | i + 1, v :: r => match nameAt ν i r with
    | some q => some (v :: q)
    | none => none
  | _, _ => none
theorem nameAt_spec {ν : Nat} : ∀ {i : Nat} {cs cs' : List V}, nameAt ν i cs = some cs' → cs'.length = cs.length ∧ ∀ (j : Nat) u', cs'[j]? = some u' → cs[j]? = some u' ∨ (cs[j]? = some .nils ∧ u' = .own ν 0 0)
  | 0, cs, cs', h => by
    cases cs with
    | nil => simp [nameAt] at h
    | cons v r =>
      cases v <;> simp only [nameAt] at h <;> cases h
      refine ⟨rfl, fun j u' hu => ?_⟩
      rcases j with _ | j
      · simp at hu; subst hu; exact .inr ⟨rfl, rfl⟩
      · exact .inl (by simpa using hu)
  | i + 1, [], cs', h => by simp [nameAt] at h
  | i + 1, v :: r, cs', h => by
    rw [nameAt] at h
    split at h <;> cases h
    rename_i q hq
    obtain ⟨h1, h2⟩ := nameAt_spec hq
    refine ⟨by simp [h1], fun j u' hu => ?_⟩
    rcases j with _ | j
    · exact .inl (by simpa using hu)
    · simpa using h2 j u' (by simpa using hu)
section
variable {P : Program} {N : Env} {c : Code} {Q : Exit → S → Prop}
theorem awp_nameR {tm : List (Nat × V)} {st : List (Nat × Option Blk)} {nx nt T1 sz1 : Nat} {cs cs' : List V} (n i T sz : Nat) (hB : S.blk ⟨tm, st, nx, nt⟩ n = some (.els T1 sz1 [.agg cs])) (hi : nameAt nx i cs = some cs') (h0 : 0 < sz) (hK : Nat.ble N.K nx = true) (k : AWp P N c Q ⟨tm, (n, some (.els T1 sz1 [.agg cs'])) :: (nx, some (.els T sz [])) :: st, nx + 1, nt⟩) : AWp P N c Q ⟨tm, st, nx, nt⟩ := fun M φ a w hr => by
  obtain ⟨hl, hs⟩ := nameAt_spec hi
  let φ' : Nat → Pl := fun n => if n = nx then ⟨none, sz, 0⟩ else φ n
  have hφ : ∀ n, n < nx → φ' n = φ n := fun n hn => if_neg (by omega)
  have hφν : φ' nx = ⟨none, sz, 0⟩ := if_pos rfl
  have hA : ∀ n, n < nx → n < nx + 1 := fun n h => by omega
  have hnlt : n < nx := (hr.st n _ hB).1
  have eb : ∀ m, S.blk ⟨tm, (n, some (.els T1 sz1 [.agg cs'])) :: (nx, some (.els T sz [])) :: st, nx + 1, nt⟩ m = if n = m then some (.els T1 sz1 [.agg cs']) else if nx = m then some (.els T sz []) else S.blk ⟨tm, st, nx, nt⟩ m := fun m => by
    unfold S.blk
    simp only [lk_put]
    by_cases e : n = m
    · simp [e]
    · by_cases e2 : nx = m <;> simp [e, e2]
  have nilx : ∀ x, Rep (fun b => M b ∨ N b) (· < nx) φ w .nils x → x = .slice none 0 0 := fun x h => by
    cases h with
    | fz h => cases h; rfl
  have name : ∀ m b, S.blk ⟨tm, (n, some (.els T1 sz1 [.agg cs'])) :: (nx, some (.els T sz [])) :: st, nx + 1, nt⟩ m = some b → m = nx ∨ ∃ b', S.blk ⟨tm, st, nx, nt⟩ m = some b' := fun m b h => by
    rw [eb] at h
    split at h
    · rename_i e; subst e; exact .inr ⟨_, hB⟩
    · split at h
      · rename_i e; exact .inl e.symm
      · exact .inr ⟨_, h⟩
  refine k M φ' a w ⟨fun q v hq => ?_, hr.nt, fun m b hb => ?_, fun m m' b b' x e1 e2 e3 e4 => ?_, hr.lim, hr.dis, hr.df, fun m hm => ?_, hr.gl⟩
  · obtain ⟨g1, g2⟩ := hr.tm q v hq
    exact ⟨g1, g2.mono (fun _ _ h => h) (.refl _ w) hA hφ⟩
  · rw [eb] at hb
    split at hb
    · rename_i e
      subst e; cases hb
      refine ⟨hA _ hnlt, ?_⟩
      obtain ⟨_, g1, g2, g3, g4, g5⟩ := hr.st _ _ hB
      rw [hφ _ hnlt]
      have hcs := g4 (.agg cs) (by simp)
      refine ⟨g1, g2, g3, fun x hx => ?_, g5.imp (fun h => absurd h.2.1 (by simp)) ?_⟩
      · rw [List.mem_singleton] at hx; subst hx
        refine ⟨by show cs'.length = sz1; rw [hl]; exact hcs.1, fun u hu => ?_⟩
        obtain ⟨j, hj⟩ := List.mem_iff_getElem?.1 (show u ∈ cs' from hu)
        rcases hs j u hj with h | ⟨_, h⟩
        · exact hcs.2 u (List.mem_of_getElem? (show (V.agg cs).cells[j]? = some u from h))
        · subst h; rfl
      · rintro ⟨b, cur, k1, k2, k3, k4, k5, k6, k7⟩
        refine ⟨b, cur, k1, k2, k3, k4, k5, k6, fun i' j x u hx hu => ?_⟩
        rcases i' with _ | i'
        · simp at hx; subst hx
          rcases hs j u hu with h | ⟨h, rfl⟩
          · obtain ⟨q, f1, f2⟩ := k7 0 j (.agg cs) u rfl h
            exact ⟨q, f1, f2.mono (fun _ _ h => h) (.refl _ w) hA hφ⟩
          · obtain ⟨q, f1, f2⟩ := k7 0 j (.agg cs) .nils rfl h
            have := nilx _ f2
            subst this
            exact ⟨_, f1, .own0 (Nat.lt_succ_self nx) (by rw [hφν])⟩
        · simp at hx
    · split at hb
      · rename_i e
        subst e; cases hb
        refine ⟨Nat.lt_succ_self nx, by rw [hφν], h0, by simp [LIM], (by intro x hx; simp at hx), .inl ⟨by rw [hφν], rfl, by rw [hφν]⟩⟩
      · obtain ⟨g1, g2⟩ := hr.st m b hb
        have g1 : m < nx := g1
        refine ⟨hA m g1, ?_⟩
        rw [hφ m g1]
        exact g2.mono (fun _ _ h => h) (.refl _ w) hA hφ (fun _ h => h) fun _ _ => rfl
  · rcases name m b e1 with rfl | ⟨c1, f1⟩
    · rw [hφν] at e3; cases e3
    · rcases name m' b' e2 with rfl | ⟨c2, f2⟩
      · rw [hφν] at e4; cases e4
      · have g1 : m < nx := (hr.st m _ f1).1
        have g2 : m' < nx := (hr.st m' _ f2).1
        rw [hφ m g1] at e3
        rw [hφ m' g2] at e4
        exact hr.inj m m' _ _ x f1 f2 e3 e4
  · obtain ⟨g1, g2⟩ := hr.pin m hm
    exact ⟨hA m g1, (hφ m g1).trans g2⟩
end
/-! ### Nil slices as slices of nothing, wherever they stand -/
mutual
def V.nfd : V → V
  | .nils => .fro []
  | .agg vs => .agg (nfdL vs)
  | .tup vs => .tup (nfdL vs)
  | v => v
def V.nfdL : List V → List V
  | [] => []
  | v :: r => v.nfd :: nfdL r
end
theorem nfdL_map : ∀ l : List V, V.nfdL l = l.map V.nfd
  | [] => rfl
  | v :: r => by rw [V.nfdL, nfdL_map r]; rfl
theorem nfd_one (v : V) (h : v.one = true) : v.nfd.one = true := by
  cases v <;> first | rfl | (simp [V.one] at h)
theorem Fz.nfd {X : Nat → Prop} {w : World} {v : V} {x : Value} (h : Fz X w v x) : Fz X w v.nfd x := by
  induction h with
  | nils => rw [V.nfd]; exact .fro0 (fun _ => rfl)
  | agg h1 h2 h3 ih =>
    rw [V.nfd, nfdL_map]
    refine .agg (by simpa using h1) (fun v hv => ?_) fun i x c hx hc => ?_
    · obtain ⟨u, hu, rfl⟩ := List.mem_map.1 hv
      exact nfd_one u (h2 u hu)
    · rw [List.getElem?_map, Option.map_eq_some_iff] at hx
      obtain ⟨u, hu, rfl⟩ := hx
      exact ih i u c hu hc
  | tup h1 h3 ih =>
    rw [V.nfd, nfdL_map]
    refine .tup (by simpa using h1) fun i x c hx hc => ?_
    rw [List.getElem?_map, Option.map_eq_some_iff] at hx
    obtain ⟨u, hu, rfl⟩ := hx
    exact ih i u c hu hc
  | int h => exact .int h
  | bool => exact .bool
  | str h => exact .str h
  | fro0 h => exact .fro0 h
  | fro c h1 h2 h3 h4 h5 h6 h7 h8 => exact .fro c h1 h2 h3 h4 h5 h6 h7 h8
  | fp c h1 h2 h3 h4 h5 => exact .fp c h1 h2 h3 h4 h5
  | nilp => exact .nilp
  | fn h1 h2 h3 h4 => exact .fn h1 h2 h3 h4
  | nilf => exact .nilf
  | ifc h => exact .ifc h
  | nili => exact .nili
  | nilm => exact .nilm
  | und => exact .und
theorem ACallsG.nfd {P : Program} {g : Glob} {f : FuncId} {args : List V} {r r' : V} (h : ACallsG P g f args r) (e : r.nfd = r') : ACallsG P g f args r' := fun N w vs hG hN hl hv => (h N w vs hG hN hl hv).mono fun _ _w' ⟨x, h1, h2, h3⟩ => ⟨x, h1, h2, e ▸ h3.nfd⟩
theorem ACalls.nfd {P : Program} {f : FuncId} {args : List V} {r r' : V} (h : ACalls P f args r) (e : r.nfd = r') : ACalls P f args r' := fun g => (h g).nfd e
section
variable {P : Program} {N : Env} {l r : List Oper} {o : Oper} {tm : List (Nat × V)} {st : List (Nat × Option Blk)} {nx nt : Nat} {tr : List Tr} {K : S → List Tr → Prop} {tb : List Ty} {d T : Nat} {t t' : TypeId} {x y z : Operand} {a b n : Int} {p q : List UInt8} {u v : Bool} {e ee : Ty}
theorem x_appK {α : Type} (f : α → V) {L K' : List α} {m el sz : Nat} {z0 : V} (htb : TbOk P tb) (k : ARun P N l K r ⟨(d, .own nx 0 (L ++ K').length) :: tm, (m, none) :: (nx, some (.els el sz ((L ++ K').map f))) :: st, nx + 1, nt⟩ (tr ++ [trOf l o ⟨[(x, .own m 0 L.length), (y, .fro (K'.map f))], [(m, .els el sz (L.map f))]⟩ [(m, none), (nx, some (.els el sz ((L ++ K').map f)))]])) (ho : o.op = .call { callee := .builtin .append, args := #[x, y], argTypes := #[T, T] } := by rfl) (hx : S.ev ⟨tm, st, nx, nt⟩ x = some (.own m 0 L.length) := by rfl) (hy : S.ev ⟨tm, st, nx, nt⟩ y = some (.fro (K'.map f)) := by rfl) (hg : guardV l o ⟨tm, st, nx, nt⟩ = some true := by rfl) (hd : o.dst = some d := by rfl) (hlt : Nat.blt d nt = true := by rfl) (hB : S.blk ⟨tm, st, nx, nt⟩ m = some (.els el sz (L.map f)) := by rfl) (hT' : nth tb T = some e := by rfl) (hs : e.sl = some el := by rfl) (hE : nth tb el = some ee := by rfl) (hz : ee.zeroV = some z0 := by rfl) (hsz : ee.size = sz := by rfl) (hzl : z0.cells.length = sz := by rfl) (hf : ∀ a, (f a).cells.length = sz ∧ ((f a).cells.all V.one) = true := by exact fun _ => ⟨rfl, rfl⟩) (hlim : (L ++ K').length ≤ LIM := by simp only [LIM, List.length_append, List.length_nil]; omega) (hby : (L ++ K').length * ee.bytes ≤ 140737488355328 := by show _ * (_ : Nat) ≤ _; simp; omega) : ARun P N l K (o :: r) ⟨tm, st, nx, nt⟩ tr := r_turn rfl hg hd hlt (law_append htb ho hT' hs hE hz hsz hzl (fun q hq => by obtain ⟨a, _, rfl⟩ := List.mem_map.1 hq; exact ⟨(hf a).1, List.all_eq_true.1 (hf a).2⟩) (by simp) (by simp) (by simp) hlim hby) (hT hx (hT hy (hN hB h0))) k
end
end Go.Proofs.YtnpokgjehapmjaaDoor.Abs
end

section
namespace Go.Proofs.YtnpokgjehapmjaaDoor.Abs
open Go.RowKit Mem Facts

/-- A byte as a rune. -/
abbrev runeT (c : UInt8) : V := .int .i32 (c.toNat : Int)
section
variable {X A A' : Nat → Prop} {φ φ' : Nat → Pl} {w w' : World} {P : Program} {tb : List Ty} {T : Nat} {e ee e' : Ty} {N : Env} {M : Nat → Prop} {o : Oper} {s : S} {a : Act} {x y : Operand} {el : Nat} {L : List UInt8}
theorem flat_one1 {α : Type} {f : α → V} (hf : ∀ a, (f a).cells = [f a]) : ∀ L : List α, flat (L.map f) = L.map f
  | [] => rfl
  | a :: L => by show (f a).cells ++ flat (L.map f) = _; rw [hf, flat_one1 hf L]; rfl
theorem kd_int {ti : TypeInfo} {d : TypeDesc} {k : IntKind} (ht : TyIs P T e ti d) (hk : Nat.beq e.knd (kcode k) = true) : P.underlying T = some (.int k) := by
  have : d = .int k := kind_int ((Nat.eq_of_beq_eq_true hk).symm.trans ht.knd)
  rw [ht.und, this]
/-! ### Arrays of plain values that are compared -/
def eqI (us vs : List V) : List Nat → Bool
  | [] => true
  | i :: r => (match nth us i, nth vs i with
    | some u, some v => eqS u v
    | _, _ => false) && eqI us vs r
def okI (k : Nat) (us vs : List V) : List Nat → Bool
  | [] => true
  | i :: r => (match nth us i, nth vs i with
    | some u, some v => okS k u v
    | _, _ => false) && okI k us vs r
theorem run_eqI {us vs : List V} {xs ys : Array Value} (htb : TbOk P tb) (hE : nth tb el = some ee) (hx : Reps X A φ w us xs.toList) (hy : Reps X A φ w vs ys.toList) (d : Nat) : ∀ (is : List Nat), okI ee.knd us vs is = true → ∀ w1, (Op.eqItems (d + 1) el 1 xs ys is).run P w1 = .ok (eqI us vs is) w1
  | [], _, w1 => by simp [Op.eqItems, eqI]
  | i :: is, hok, w1 => by
    simp only [okI, Bool.and_eq_true] at hok
    obtain ⟨h1, h2⟩ := hok
    have ih := run_eqI htb hE hx hy d is h2
    cases hu : nth us i with
    | none => rw [hu] at h1; cases h1
    | some u =>
      cases hv : nth vs i with
      | none => rw [hu, hv] at h1; cases h1
      | some v =>
        rw [hu, hv] at h1
        simp only at h1
        have hu' := hu
        have hv' := hv
        rw [nth_eq] at hu hv
        obtain ⟨cx, k1, k2⟩ := hx.2 _ _ hu
        obtain ⟨cy, k3, k4⟩ := hy.2 _ _ hv
        rw [Array.getElem?_toList] at k1 k3
        obtain ⟨g1, g2⟩ := run_eqS (P := P) htb hE h1 k2 k4 d
        simp only [Op.eqItems, Nat.mul_one, Sem.run_bind, run_part_plain w1 g1 k1, run_part_plain w1 g1 k3, Result.andThen_ok, g2 w1, eqI, hu', hv']
        cases eqS u v
        · simp
        · simp [ih w1]
theorem strOf_bytes (l : List UInt8) : strOfNums (l.map fun b => (b.toNat : Int)) = str l := by
  unfold strOfNums
  apply ByteArray.ext
  simp [str, Function.comp_def]
theorem law_bytesStr {src dst n : Nat} (htb : TbOk P tb) (ho : o.op = .convert src dst x) (hS : nth tb src = some e) (hs : e.sl = some el) (hE : nth tb el = some ee) (hk : Nat.beq ee.knd (kcode .u8) = true) (hD : nth tb dst = some e') (hd2 : Nat.beq e'.knd 2 = true) (hl : L.length ≤ SLIM) :
    OpLaw P N o ⟨[(x, .own n 0 L.length)], [(n, .els el 1 (L.map byteT))]⟩ (strT L) [] [] := law_pure fun s M A φ a w hh hr => by
  obtain ⟨ti, d, ht⟩ := ty_at htb hS
  obtain ⟨tj, dj, hj⟩ := ty_at htb hE
  obtain ⟨tk, dk, hkk⟩ := ty_at htb hD
  obtain ⟨vals, h1, h2, h3⟩ := own_src hr hh.n (hr.ev hh.a) (by simp)
  refine ⟨.string (str L), ?_, .fz (.str (by rw [str_size]; exact hl))⟩
  have hv : ∀ (j : Nat) c, L[j]? = some c → vals[j]? = some (.int .u8 c.toNat) := fun j c hj => by
    have hf := flat_one1 (f := byteT) (fun _ => rfl) L
    have hlv : vals.length = L.length := by have := h1.1; simpa using this
    have hjl : j < vals.length := by rw [hlv]; exact (List.getElem?_eq_some_iff.1 hj).1
    have hr2 := h2.at (j := j) (u := byteT c) (c := vals[j]) (by rw [hf]; simp [hj]) (by simp [hjl])
    rw [List.getElem?_eq_getElem hjl, rep_int hr2]
  have hrun : (convert src dst (a.eval x)).run P w = .ok (.string (str L)) w := by
    rcases h1.2 with ⟨e1, e2⟩ | ⟨g, cap, cur, e1, _, hg, hnc, hcm, hcs, htake⟩
    · rw [e1, run_convert_bytes_nil w src el (slOf_und ht hs) (kd_int hj hk) 0 0 dst (und_str hkk hd2)]
      have : L = [] := List.eq_nil_of_length_eq_zero e2
      subst this; rfl
    · rw [e1, run_convert_bytes_arg w src el (slOf_und ht hs) (kd_int hj hk) g 0 L.length cap (L.map fun b => (b.toNat : Int)) (by simp) (fun j hjl => ?_) dst (und_str hkk hd2), strOf_bytes]
      have hc := h1.cells (g := g) (by rw [e1]; rfl) j (.int .u8 (L[j]).toNat) (hv j L[j] (by simp [hjl]))
      have hplain : (⟨g, 0, none⟩ : Addr).add j = ⟨g, 0 + j, none⟩ := by
        unfold Addr.add
        split
        · subst_vars; rfl
        · simp
      rw [hplain] at hc
      rw [hc, List.getD_eq_getElem?_getD, List.getElem?_map, List.getElem?_eq_getElem hjl]
      rfl
  unfold execOp
  simp only [ho, Sem.run_bind, hrun, Result.andThen_ok, Sem.run_pure]
end

section
variable {P : Program} {N : Env} {l r : List Oper} {o : Oper} {tm : List (Nat × V)} {st : List (Nat × Option Blk)} {nx nt : Nat} {tr : List Tr} {K : S → List Tr → Prop} {tb : List Ty} {d T : Nat} {t t' : TypeId} {x y z : Operand} {a b n : Int} {p q : List UInt8} {u v : Bool} {e ee : Ty} {kd : IntKind}
theorem x_stI {α : Type} (f : α → V) {L : List α} {a1 a0 : α} {m i0 el sz : Nat} (j : Nat) (htb : TbOk P tb) (k : ARun P N l K r ⟨tm, (m, some (.els el sz ((L.set j a1).map f))) :: st, nx, nt⟩ (tr ++ [trOf l o ⟨[(x, .loc m i0 0), (y, f a1)], [(m, .els el sz (L.map f))]⟩ [(m, some (.els el sz ((L.set j a1).map f)))]])) (ho : o.op = .store t x y := by rfl) (hx : S.ev ⟨tm, st, nx, nt⟩ x = some (.loc m i0 0) := by rfl) (hy : S.ev ⟨tm, st, nx, nt⟩ y = some (f a1) := by rfl) (hg : guardV l o ⟨tm, st, nx, nt⟩ = some true := by rfl) (hd : o.dst = none := by rfl) (hB : S.blk ⟨tm, st, nx, nt⟩ m = some (.els el sz (L.map f)) := by rfl) (hT' : nth tb t = some e := by rfl) (hi : i0 = j := by omega) (hL : L[j]? = some a0 := by assumption) (h1 : (f a1).cells.all V.one = true := by rfl) (h2 : (f a1).cells.length = e.size := by rfl) (hp : putV (f a0) 0 (f a1) = some (f a1) := by rfl) (hel : (!(f a0).one || Nat.beq (f a1).cells.length 1) = true := by rfl) : ARun P N l K (o :: r) ⟨tm, st, nx, nt⟩ tr := r_set hg hd (law_store htb ho hT' (i := i0) (el := f a0) (by subst hi; rw [List.getElem?_map, hL]; rfl) h1 h2 hp hel (by subst hi; rw [List.map_set])) (hT hx (hT hy (hN hB h0))) k
theorem x_ldI {α : Type} (f : α → V) {L : List α} {a0 : α} {m i0 el sz : Nat} (j : Nat) (htb : TbOk P tb) (k : ARun P N l K r ⟨(d, f a0) :: tm, st, nx, nt⟩ (tr ++ [trOf l o ⟨[(x, .loc m i0 0)], [(m, .els el sz (L.map f))]⟩ []])) (ho : o.op = .load t x := by rfl) (hx : S.ev ⟨tm, st, nx, nt⟩ x = some (.loc m i0 0) := by rfl) (hg : guardV l o ⟨tm, st, nx, nt⟩ = some true := by rfl) (hd : o.dst = some d := by rfl) (hlt : Nat.blt d nt = true := by rfl) (hB : S.blk ⟨tm, st, nx, nt⟩ m = some (.els el sz (L.map f)) := by rfl) (hT' : nth tb t = some e := by rfl) (hi : i0 = j := by omega) (hL : L[j]? = some a0 := by assumption) (hv : subV (f a0).cells 0 e.agg e.size = some (f a0) := by rfl) : ARun P N l K (o :: r) ⟨tm, st, nx, nt⟩ tr := r_val hg hd hlt (law_load htb ho hT' (i := i0) (el := f a0) (by subst hi; rw [List.getElem?_map, hL]; rfl) hv) (hT hx (hN hB h0)) k
theorem x_mk0 {α : Type} (f : α → V) (n : Nat) {c : Int} {el sz : Nat} {z0 : V} {kc : IntKind} (htb : TbOk P tb) (k : ARun P N l K r ⟨(d, .own nx 0 ([] : List α).length) :: tm, (nx, some (.els el sz (([] : List α).map f))) :: st, nx + 1, nt⟩ (tr ++ [trOf l o ⟨[(x, .int kd 0), (y, .int kc c)], []⟩ [(nx, some (.els el sz (([] : List α).map f)))]])) (ho : o.op = .makeSlice T x y := by rfl) (hx : S.ev ⟨tm, st, nx, nt⟩ x = some (.int kd 0) := by rfl) (hy : S.ev ⟨tm, st, nx, nt⟩ y = some (.int kc c) := by rfl) (hg : guardV l o ⟨tm, st, nx, nt⟩ = some true := by rfl) (hd : o.dst = some d := by rfl) (hlt : Nat.blt d nt = true := by rfl) (hT' : nth tb T = some e := by rfl) (hs : e.sl = some el := by rfl) (hE : nth tb el = some ee := by rfl) (hz : ee.zeroV = some z0 := by rfl) (hsz : ee.size = sz := by rfl) (hzl : z0.cells.length = sz := by rfl) (h0' : Nat.ble 1 sz = true := by rfl) (hn : c = (n : Int) := by first | rfl | omega) (hlim : n ≤ LIM := by first | omega | (simp only [LIM] at *; omega)) (hby : ee.bytes * n ≤ 281474976710656 := by show (_ : Nat) * _ ≤ _; first | (simp; done) | (simp; omega) | omega) : ARun P N l K (o :: r) ⟨tm, st, nx, nt⟩ tr := r_new rfl hg hd hlt (law_makeSlice0 htb ho hT' hs hE hz hsz hzl h0' hn hlim hby) (hT hx (hT hy h0)) k
theorem x_bstr {m el : Nat} {e' : Ty} (htb : TbOk P tb) (k : ARun P N l K r ⟨(d, strT p) :: tm, st, nx, nt⟩ (tr ++ [trOf l o ⟨[(x, .own m 0 p.length)], [(m, .els el 1 (p.map byteT))]⟩ []])) (ho : o.op = .convert t t' x := by rfl) (hx : S.ev ⟨tm, st, nx, nt⟩ x = some (.own m 0 p.length) := by rfl) (hg : guardV l o ⟨tm, st, nx, nt⟩ = some true := by rfl) (hd : o.dst = some d := by rfl) (hlt : Nat.blt d nt = true := by rfl) (hB : S.blk ⟨tm, st, nx, nt⟩ m = some (.els el 1 (p.map byteT)) := by rfl) (hS : nth tb t = some e := by rfl) (hs : e.sl = some el := by rfl) (hE : nth tb el = some ee := by rfl) (hk : Nat.beq ee.knd (kcode .u8) = true := by rfl) (hD : nth tb t' = some e' := by rfl) (hd2 : Nat.beq e'.knd 2 = true := by rfl) (hl : p.length ≤ SLIM := by simp only [SLIM]; omega) : ARun P N l K (o :: r) ⟨tm, st, nx, nt⟩ tr := r_val hg hd hlt (law_bytesStr htb ho hS hs hE hk hD hd2 hl) (hT hx (hN hB h0)) k
theorem x_quo (k : ARun P N l K r ⟨(d, .int kd n) :: tm, st, nx, nt⟩ (tr ++ [trOf l o ⟨[(x, .int kd a), (y, .int kd b)], []⟩ []])) (ho : o.op = .binOp .quo t x y t' := by rfl) (hx : S.ev ⟨tm, st, nx, nt⟩ x = some (.int kd a) := by rfl) (hy : S.ev ⟨tm, st, nx, nt⟩ y = some (.int kd b) := by rfl) (hg : guardV l o ⟨tm, st, nx, nt⟩ = some true := by rfl) (hd : o.dst = some d := by rfl) (hlt : Nat.blt d nt = true := by rfl) (hb : ¬ b = 0 := by decide) (h : kd.wrap (a.tdiv b) = n := by assumption) : ARun P N l K (o :: r) ⟨tm, st, nx, nt⟩ tr := r_val hg hd hlt (law_quo ho hb h) (hT hx (hT hy h0)) k
theorem x_rem (k : ARun P N l K r ⟨(d, .int kd n) :: tm, st, nx, nt⟩ (tr ++ [trOf l o ⟨[(x, .int kd a), (y, .int kd b)], []⟩ []])) (ho : o.op = .binOp .rem t x y t' := by rfl) (hx : S.ev ⟨tm, st, nx, nt⟩ x = some (.int kd a) := by rfl) (hy : S.ev ⟨tm, st, nx, nt⟩ y = some (.int kd b) := by rfl) (hg : guardV l o ⟨tm, st, nx, nt⟩ = some true := by rfl) (hd : o.dst = some d := by rfl) (hlt : Nat.blt d nt = true := by rfl) (hb : ¬ b = 0 := by decide) (h : a.tmod b = n := by assumption) (hn : InR kd n := by assumption) : ARun P N l K (o :: r) ⟨tm, st, nx, nt⟩ tr := r_val hg hd hlt (law_rem ho hb h hn) (hT hx (hT hy h0)) k
end
end Go.Proofs.YtnpokgjehapmjaaDoor.Abs
end
