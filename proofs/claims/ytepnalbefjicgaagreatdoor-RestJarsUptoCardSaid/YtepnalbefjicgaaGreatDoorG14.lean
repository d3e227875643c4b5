/- Texts of the proof, joined: CoP, Eld, ConC, JarB, JarC, Min. -/
import Derived.Test.YtepnalbefjicgaaGreatDoorG13
import Derived.Test.YtepnalbefjicgaaGreatDoorG12
import Derived.Recover
import Derived.Test.YtepnalbefjicgaaGreatDoorG8
import Derived.Test.YtepnalbefjicgaaGreatDoorG10
section
namespace Go.Proofs.YtepnalbefjicgaaGreatDoor.ConP
open BitsP SixtyP SixtyQ

theorem snocI {α : Type} {p : List α → Prop} (h0 : p []) (h1 : ∀ l b, p l → p (l ++ [b])) : ∀ l, p l := fun l => by
  have key : ∀ r : List α, p r.reverse := fun r => by
    induction r with
    | nil => exact h0
    | cons b r ih => rw [List.reverse_cons]; exact h1 _ _ ih
  have := key l.reverse
  rwa [List.reverse_reverse] at this
/-! ### Runs -/
def consR (u : Nat) : List (Nat × Nat) → List (Nat × Nat)
  | [] => [(u, u)]
  | (a, b) :: r => if a = u + 1 then (u, b) :: r else (u, u) :: (a, b) :: r
def snocR : List (Nat × Nat) → Nat → List (Nat × Nat)
  | [], v => [(v, v)]
  | [(a, b)], v => if b + 1 = v then [(a, v)] else [(a, b), (v, v)]
  | p :: q :: r, v => p :: snocR (q :: r) v
def runsF : List Nat → List (Nat × Nat)
  | [] => []
  | u :: l => consR u (runsF l)
theorem snoc_cons (u v : Nat) : ∀ r : List (Nat × Nat), snocR (consR u r) v = consR u (snocR r v)
  | [] => by
    simp only [consR, snocR]
    by_cases h : u + 1 = v
    · rw [if_pos h, if_pos h.symm]
    · rw [if_neg h, if_neg fun e => h e.symm]
  | [(a, b)] => by
    simp only [consR, snocR]
    by_cases h1 : a = u + 1 <;> by_cases h2 : b + 1 = v <;> simp [h1, h2, snocR]
  | (a, b) :: q :: r => by
    simp only [consR, snocR]
    by_cases h1 : a = u + 1 <;> simp [h1, snocR]
theorem runs_snoc : ∀ (l : List Nat) (v : Nat), runsF (l ++ [v]) = snocR (runsF l) v
  | [], v => rfl
  | u :: l, v => by rw [List.cons_append, runsF, runsF, runs_snoc l v, snoc_cons]
theorem consR_len (u : Nat) : ∀ r, (consR u r).length ≤ r.length + 1
  | [] => by simp [consR]
  | (a, b) :: r => by simp only [consR]; split <;> simp
theorem runs_len : ∀ U : List Nat, (runsF U).length ≤ U.length
  | [] => Nat.le_refl _
  | u :: l => by
    have h1 := consR_len u (runsF l)
    have h2 := runs_len l
    rw [runsF, List.length_cons]; omega
/-- All that runs tell is of the list. -/
theorem snocR_all {p : Nat → Prop} (v : Nat) (hv : p v) : ∀ r : List (Nat × Nat), (∀ x ∈ r, p x.1 ∧ p x.2) → ∀ x ∈ snocR r v, p x.1 ∧ p x.2
  | [], _, x, hx => by simp only [snocR, List.mem_singleton] at hx; subst hx; exact ⟨hv, hv⟩
  | [(a, b)], h, x, hx => by
    have := h (a, b) (List.mem_singleton.2 rfl)
    simp only [snocR] at hx
    split at hx
    · simp only [List.mem_singleton] at hx; subst hx; exact ⟨this.1, hv⟩
    · simp only [List.mem_cons, List.not_mem_nil, or_false] at hx
      rcases hx with rfl | rfl
      · exact this
      · exact ⟨hv, hv⟩
  | y :: q :: r, h, x, hx => by
    simp only [snocR, List.mem_cons] at hx
    rcases hx with rfl | hx
    · exact h _ (List.mem_cons_self ..)
    · exact snocR_all v hv (q :: r) (fun z hz => h z (List.mem_cons_of_mem _ hz)) x (by simpa using hx)
theorem runs_all {p : Nat → Prop} (U : List Nat) (h : ∀ v ∈ U, p v) : ∀ x ∈ runsF U, p x.1 ∧ p x.2 := by
  refine snocI (p := fun U => (∀ v ∈ U, p v) → ∀ x ∈ runsF U, p x.1 ∧ p x.2) (fun _ x hx => by cases hx) (fun l b ih h => ?_) U h
  rw [runs_snoc]
  exact snocR_all b (h b (by simp)) _ (ih fun v hv => h v (List.mem_append_left _ hv))
/-- The last vendor; nought: none. -/
def lastOf (U : List Nat) : Nat := U.getLast?.getD 0
/-! ### The bits of a run, of runs, of vendors -/
def sizeR (p : Nat × Nat) : Nat := if p.1 = p.2 then 7 else 13
def runBits (p : Nat × Nat) : List Nat := (!decide (p.1 = p.2)).toNat :: (bitsOf p.1 6 ++ if p.1 = p.2 then [] else bitsOf p.2 6)
theorem runBits_len (p : Nat × Nat) : (runBits p).length = sizeR p := by
  unfold runBits sizeR
  split <;> simp [bitsOf_len]
def sizes (r : List (Nat × Nat)) : Nat := r.foldl (fun n p => n + sizeR p) 0
theorem sizes_snoc (r : List (Nat × Nat)) (p : Nat × Nat) : sizes (r ++ [p]) = sizes r + sizeR p := by unfold sizes; rw [List.foldl_append]; rfl
def runsBits (r : List (Nat × Nat)) : List Nat := r.flatMap runBits
theorem runsBits_snoc (r : List (Nat × Nat)) (p : Nat × Nat) : runsBits (r ++ [p]) = runsBits r ++ runBits p := by simp [runsBits]
theorem runsBits_len (r : List (Nat × Nat)) : (runsBits r).length = sizes r := by
  refine snocI (p := fun r => (runsBits r).length = sizes r) rfl (fun r p ih => ?_) r
  rw [runsBits_snoc, sizes_snoc, List.length_append, ih, runBits_len]
theorem toNat_bin (b : Bool) : b.toNat < 2 := by cases b <;> decide
theorem cons_bin {b : Nat} {l : List Nat} (h : b < 2) (hl : Bin l) : Bin (b :: l) := fun x hx => by
  rcases List.mem_cons.1 hx with rfl | hx
  · exact h
  · exact hl x hx
theorem runBits_bin (p : Nat × Nat) : Bin (runBits p) := by
  unfold runBits
  refine cons_bin (toNat_bin _) ((bitsOf_bin _ _).app ?_)
  split
  · exact bin_nil
  · exact bitsOf_bin _ _
theorem runsBits_bin (r : List (Nat × Nat)) : Bin (runsBits r) := fun b hb => by
  obtain ⟨p, _, hp⟩ := List.mem_flatMap.1 hb
  exact runBits_bin p b hp
/-- A bit for each vendor up to n. -/
def eachBit (U : List Nat) (n : Nat) : List Nat := (List.range n).map fun i => (U.contains (i + 1)).toNat
theorem eachBit_len (U : List Nat) (n : Nat) : (eachBit U n).length = n := by simp [eachBit]
theorem eachBit_bin (U : List Nat) (n : Nat) : Bin (eachBit U n) := fun b hb => by
  obtain ⟨i, _, rfl⟩ := List.mem_map.1 hb
  exact toNat_bin _
def byRuns (U : List Nat) : List Nat := 1 :: (bitsOf (runsF U).length 6 ++ runsBits (runsF U))
def byEach (U : List Nat) : List Nat := 0 :: eachBit U (lastOf U)
/-- Shorter by runs? -/
def short (U : List Nat) : Bool := decide (6 + sizes (runsF U) < lastOf U)
def vendBits (U : List Nat) : List Nat := bif short U then byRuns U else byEach U
theorem byRuns_len (U : List Nat) : (byRuns U).length = 7 + sizes (runsF U) := by simp [byRuns, bitsOf_len, runsBits_len]; omega
theorem byEach_len (U : List Nat) : (byEach U).length = 1 + lastOf U := by simp [byEach, eachBit_len]; omega
theorem vendBits_len (U : List Nat) : (vendBits U).length ≤ 1 + lastOf U := by
  unfold vendBits
  cases h : short U with
  | false => rw [cond_false, byEach_len]; exact Nat.le_refl _
  | true =>
    rw [cond_true, byRuns_len]
    unfold short at h
    have := of_decide_eq_true h
    omega
theorem vendBits_bin (U : List Nat) : Bin (vendBits U) := by
  unfold vendBits
  cases short U with
  | true => exact cons_bin (by decide) ((bitsOf_bin _ _).app (runsBits_bin _))
  | false => exact cons_bin (by decide) (eachBit_bin _ _)
def purpBits (P : Nat → Bool) (n : Nat) : List Nat := (List.range n).map fun i => (P i).toNat
theorem purpBits_len (P : Nat → Bool) (n : Nat) : (purpBits P n).length = n := by simp [purpBits]
theorem purpBits_bin (P : Nat → Bool) (n : Nat) : Bin (purpBits P n) := fun b hb => by
  obtain ⟨i, _, rfl⟩ := List.mem_map.1 hb
  exact toNat_bin _
def headBits (g : Nat) (P : Nat → Bool) (U : List Nat) : List Nat := bitsOf 1 6 ++ bitsOf g 36 ++ purpBits P 10 ++ bitsOf (lastOf U) 6
def conBits (g : Nat) (P : Nat → Bool) (U : List Nat) : List Nat := headBits g P U ++ vendBits U
theorem headBits_len (g : Nat) (P : Nat → Bool) (U : List Nat) : (headBits g P U).length = 58 := by simp [headBits, bitsOf_len, purpBits_len]
theorem headBits_bin (g : Nat) (P : Nat → Bool) (U : List Nat) : Bin (headBits g P U) := (((bitsOf_bin _ _).app (bitsOf_bin _ _)).app (purpBits_bin _ _)).app (bitsOf_bin _ _)
theorem conBits_bin (g : Nat) (P : Nat → Bool) (U : List Nat) : Bin (conBits g P U) := (headBits_bin g P U).app (vendBits_bin U)
theorem conBits_len (g : Nat) (P : Nat → Bool) (U : List Nat) : (conBits g P U).length ≤ 59 + lastOf U := by
  unfold conBits
  rw [List.length_append, headBits_len]
  have := vendBits_len U
  omega
/-- Bits as bytes. -/
def packT (l : List Nat) : List UInt8 := (packB l).map UInt8.ofNat
theorem packT_len (l : List Nat) : (packT l).length = (l.length + 7) / 8 := by simp [packT, packB_len]
/-- A consent's text. -/
def conText (g : Nat) (P : Nat → Bool) (U : List Nat) : List UInt8 := enc6 (tbits (packT (conBits g P U)))

/-! ### Right vendors -/
def RightN (U : List Nat) : Prop := U.Pairwise (· < ·) ∧ ∀ v ∈ U, 1 ≤ v ∧ v ≤ 40
theorem lastOf_le {U : List Nat} (h : RightN U) : lastOf U ≤ 40 := by
  unfold lastOf
  cases hl : U.getLast? with
  | none => simp
  | some v => exact (h.2 v (List.mem_of_getLast? hl)).2
theorem right_len : ∀ (U : List Nat) (a : Nat), U.Pairwise (· < ·) → (∀ v ∈ U, a ≤ v ∧ v ≤ 40) → a ≤ 41 → U.length + a ≤ 41
  | [], a, _, _, ha => by simp only [List.length_nil]; omega
  | u :: l, a, h, hr, _ => by
    obtain ⟨h1, h2⟩ := List.pairwise_cons.1 h
    have hu := hr u (List.mem_cons_self ..)
    have := right_len l (u + 1) h2 (fun v hv => ⟨h1 v hv, (hr v (List.mem_cons_of_mem _ hv)).2⟩) (by omega)
    rw [List.length_cons]; omega
theorem right_few {U : List Nat} (h : RightN U) : U.length ≤ 40 := by
  have := right_len U 1 h.1 h.2 (by omega)
  omega
theorem lastOf_mem (x : Nat) (l : List Nat) : lastOf (x :: l) ∈ x :: l := by
  unfold lastOf
  cases h : (x :: l).getLast? with
  | none => simp at h
  | some v => exact List.mem_of_getLast? h
theorem lastOf_cons (u x : Nat) (l : List Nat) : lastOf (u :: x :: l) = lastOf (x :: l) := by
  unfold lastOf; rw [List.getLast?_cons_cons]
/-! ### The document's runs -/
def endF (U : List Nat) : Nat → Nat → Nat
  | 0, e => e
  | n + 1, e => if U.contains (e + 1) then endF U n (e + 1) else e
def begR (U : List Nat) (v : Nat) : List (Nat × Nat) := if U.contains v && !U.contains (v - 1) then [(v, endF U 41 v)] else []
def docRuns (U : List Nat) (n : Nat) : List (Nat × Nat) := (List.range' 1 n).flatMap (begR U)
end Go.Proofs.YtepnalbefjicgaaGreatDoor.ConP
namespace Go.Proofs.YtepnalbefjicgaaGreatDoor.ConQ
open BitsP SixtyP SixtyQ ConP

def spanV (a b : Nat) : List Nat := List.range' a (b + 1 - a)
def runsP : Nat → List Nat → Option (List Nat)
  | 0, _ => some []
  | n + 1, l => if l.length < 7 then none
    else if num (l.take 1) = 1 then (if l.length < 13 then none else (runsP n (l.drop 13)).map (spanV (num ((l.drop 1).take 6)) (num ((l.drop 7).take 6)) ++ ·))
    else (runsP n (l.drop 7)).map (spanV (num ((l.drop 1).take 6)) (num ((l.drop 1).take 6)) ++ ·)
def eachP (n : Nat) (l : List Nat) : List Nat := ((List.range n).filter fun i => decide (l.getD i 0 = 1)).map (· + 1)
/-- Vendors of the bits behind 'last'. -/
def vendsP (last : Nat) (l : List Nat) : Option (List Nat) :=
  if num (l.take 1) = 1 then (if l.length < 7 then none else runsP (num ((l.drop 1).take 6)) (l.drop 7))
  else if l.length < 1 + last then none else some (eachP last (l.drop 1))
def given (l : List Nat) : Nat := num ((l.drop 6).take 36)
def purp (l : List Nat) (i : Nat) : Bool := decide (num ((l.drop (42 + i)).take 1) = 1)
def lastP (l : List Nat) : Nat := num ((l.drop 52).take 6)
def vends (l : List Nat) : Option (List Nat) := vendsP (lastP l) (l.drop 58)
/-- The fault of bits; nought: none. -/
def codeP (l : List Nat) : Nat := if l.length < 6 then 5 else if num (l.take 6) ≠ 1 then 7 else if l.length < 59 then 5 else match vends l with
  | none => 5
  | some _ => 0
abbrev Rd := Nat × (Nat → Bool) × List Nat × Nat
def noRd (c : Nat) : Rd := (0, fun _ => false, [], c)
abbrev toI (U : List Nat) : List Int := U.map fun n : Nat => (n : Int)
def readL (t : List UInt8) (l : List Nat) (U : List Nat) : Rd := if GrantP.check (given l : Int) (toI U) = 0 ∧ conText (given l) (purp l) U = t then (given l, purp l, U, 0) else noRd 1
def readC (t : List UInt8) : Rd :=
  if (readF t).2 ≠ 0 then noRd (readF t).2
  else if codeP (tbits (readF t).1) ≠ 0 then noRd (codeP (tbits (readF t).1))
  else readL t (tbits (readF t).1) ((vends (tbits (readF t).1)).getD [])

/-! ### Right ones -/
theorem right_toI {U : List Nat} : GrantP.Right (toI U) ↔ RightN U := by
  unfold GrantP.Right RightN
  rw [List.pairwise_map]
  constructor
  · rintro ⟨h1, h2⟩
    exact ⟨h1.imp fun h => by omega, fun v hv => by have := h2 (v : Int) (List.mem_map.2 ⟨v, hv, rfl⟩); omega⟩
  · rintro ⟨h1, h2⟩
    refine ⟨h1.imp fun h => by omega, fun v hv => ?_⟩
    obtain ⟨n, hn, rfl⟩ := List.mem_map.1 hv
    have := h2 n hn
    omega
theorem check_iff {g : Int} {L : List Int} : GrantP.check g L = 0 ↔ (0 ≤ g ∧ g ≤ 68719476735) ∧ GrantP.Right L := by
  unfold GrantP.check GrantP.codeG
  by_cases h : g < 0 ∨ 68719476735 < g
  · rw [if_pos h, if_neg (by decide)]
    constructor
    · intro h; cases h
    · intro h; omega
  · rw [if_neg h, if_pos rfl]
    constructor
    · intro h2; exact ⟨by omega, GrantP.right_of h2⟩
    · intro h2; exact GrantP.of_right h2.2
theorem nat_check {n : Nat} {U : List Nat} (h1 : n ≤ 68719476735) (h2 : RightN U) : GrantP.check (n : Int) (toI U) = 0 := check_iff.2 ⟨by omega, right_toI.2 h2⟩

/-! ### What is written is read as it was -/
theorem ext_sorted : ∀ {a b : List Nat}, a.Pairwise (· < ·) → b.Pairwise (· < ·) → (∀ x, x ∈ a ↔ x ∈ b) → a = b
  | [], [], _, _, _ => rfl
  | [], y :: b, _, _, h => by have := (h y).2 List.mem_cons_self; cases this
  | x :: a, [], _, _, h => by have := (h x).1 List.mem_cons_self; cases this
  | x :: a, y :: b, ha, hb, h => by
    have ha' := List.pairwise_cons.1 ha
    have hb' := List.pairwise_cons.1 hb
    have e : x = y := by
      have h1 := (h x).1 List.mem_cons_self
      have h2 := (h y).2 List.mem_cons_self
      rcases List.mem_cons.1 h1 with e | h1
      · exact e
      · rcases List.mem_cons.1 h2 with e | h2
        · exact e.symm
        · have := hb'.1 x h1; have := ha'.1 y h2; omega
    subst e
    refine congrArg (x :: ·) (ext_sorted ha'.2 hb'.2 fun z => ?_)
    constructor
    · intro hz
      rcases List.mem_cons.1 ((h z).1 (List.mem_cons_of_mem _ hz)) with e | h1
      · subst e; have := ha'.1 z hz; omega
      · exact h1
    · intro hz
      rcases List.mem_cons.1 ((h z).2 (List.mem_cons_of_mem _ hz)) with e | h1
      · subst e; have := hb'.1 z hz; omega
      · exact h1
theorem each_back {U : List Nat} (hU : RightN U) (z : List Nat) : eachP (lastOf U) (eachBit U (lastOf U) ++ z) = U := by
  refine ext_sorted ?_ hU.1 fun x => ?_
  · unfold eachP
    rw [List.pairwise_map]
    exact (List.pairwise_lt_range.filter _).imp fun h => by omega
  · have bit : ∀ i, i < lastOf U → (eachBit U (lastOf U) ++ z).getD i 0 = (U.contains (i + 1)).toNat := fun i hi => by
      rw [List.getD_eq_getElem?_getD, List.getElem?_append_left (by rw [eachBit_len]; exact hi)]
      simp [eachBit, hi]
    unfold eachP
    rw [List.mem_map]
    constructor
    · rintro ⟨i, hi, rfl⟩
      obtain ⟨h1, h2⟩ := List.mem_filter.1 hi
      rw [List.mem_range] at h1
      have h3 := of_decide_eq_true h2
      rw [bit i h1] at h3
      rw [← List.contains_iff_mem]
      cases hc : U.contains (i + 1) with
      | true => rfl
      | false => rw [hc] at h3; cases h3
    · intro hx
      have h1 := hU.2 x hx
      have h2 : x ≤ lastOf U := by
        have key : ∀ (U : List Nat), U.Pairwise (· < ·) → ∀ x ∈ U, x ≤ lastOf U := by
          intro U
          induction U with
          | nil => intro _ x hx; cases hx
          | cons u l ih =>
            intro hp x hx
            obtain ⟨p1, p2⟩ := List.pairwise_cons.1 hp
            cases l with
            | nil => rw [List.mem_singleton.1 hx]; simp [lastOf]
            | cons y l =>
              rw [lastOf_cons]
              rcases List.mem_cons.1 hx with rfl | hx
              · have := p1 _ (lastOf_mem y l); omega
              · exact ih p2 x hx
        exact key U hU.1 x hx
      refine ⟨x - 1, List.mem_filter.2 ⟨List.mem_range.2 (by omega), ?_⟩, by omega⟩
      rw [bit (x - 1) (by omega), show x - 1 + 1 = x from by omega, show U.contains x = true from by simpa using hx]
      rfl
theorem runs_le : ∀ U : List Nat, ∀ x ∈ runsF U, x.1 ≤ x.2
  | [], x, hx => by cases hx
  | u :: l, x, hx => by
    have ih := runs_le l
    rw [runsF] at hx
    cases hr : runsF l with
    | nil => rw [hr] at hx; simp only [consR, List.mem_singleton] at hx; subst hx; exact Nat.le_refl _
    | cons p r =>
      obtain ⟨a, b⟩ := p
      rw [hr] at hx ih
      have hab : a ≤ b := ih (a, b) (List.mem_cons_self ..)
      simp only [consR] at hx
      split at hx
      · rcases List.mem_cons.1 hx with rfl | hx
        · show u ≤ b; omega
        · exact ih x (List.mem_cons_of_mem _ hx)
      · rcases List.mem_cons.1 hx with rfl | hx
        · exact Nat.le_refl _
        · exact ih x hx
def spans (r : List (Nat × Nat)) : List Nat := r.flatMap fun p => spanV p.1 p.2
theorem spans_runs : ∀ U : List Nat, spans (runsF U) = U
  | [] => rfl
  | u :: l => by
    have ih := spans_runs l
    have hle := runs_le l
    rw [runsF]
    cases hr : runsF l with
    | nil =>
      rw [hr] at ih
      have : l = [] := ih.symm
      subst this
      simp [consR, spans, spanV, List.range'_succ]
    | cons p r =>
      obtain ⟨a, b⟩ := p
      rw [hr] at ih hle
      have hab : a ≤ b := hle (a, b) (List.mem_cons_self ..)
      simp only [consR]
      split
      · rename_i e
        rw [← ih]
        simp only [spans, List.flatMap_cons, spanV]
        rw [show b + 1 - u = (b + 1 - a) + 1 from by omega, List.range'_succ, List.cons_append, e]
      · rw [← ih]
        simp only [spans, List.flatMap_cons, spanV]
        rw [show u + 1 - u = 0 + 1 from by omega, List.range'_succ]
        rfl
theorem num6 {n : Nat} (h : n < 64) : num (bitsOf n 6) = n := by rw [num_bitsOf]; exact Nat.mod_eq_of_lt (by simpa using h)
theorem runs_back (z : List Nat) : ∀ r : List (Nat × Nat), (∀ x ∈ r, x.1 < 64 ∧ x.2 < 64) → runsP r.length (runsBits r ++ z) = some (spans r)
  | [], _ => rfl
  | p :: r, h => by
    have ih := runs_back z r fun x hx => h x (List.mem_cons_of_mem _ hx)
    obtain ⟨h1, h2⟩ := h p (List.mem_cons_self ..)
    have l1 := bitsOf_len p.1 6
    have l2 := bitsOf_len p.2 6
    have e : runsBits (p :: r) ++ z = runBits p ++ (runsBits r ++ z) := by simp [runsBits]
    rw [e, List.length_cons, runsP]
    unfold runBits
    by_cases hp : p.1 = p.2
    · have hn : (!decide (p.1 = p.2)).toNat = 0 := by rw [decide_eq_true hp]; rfl
      rw [if_pos hp, List.append_nil, hn, if_neg (by rw [List.length_append, List.length_cons, l1]; omega), if_neg (by simp [num])]
      have e1 : (0 :: bitsOf p.1 6 ++ (runsBits r ++ z)).drop 7 = runsBits r ++ z := by
        rw [List.cons_append, List.drop_succ_cons, List.drop_left' l1]
      have e2 : ((0 :: bitsOf p.1 6 ++ (runsBits r ++ z)).drop 1).take 6 = bitsOf p.1 6 := by
        rw [List.cons_append, List.drop_succ_cons, List.drop_zero, List.take_left' l1]
      rw [e1, e2, ih, num6 h1]
      simp [spans, hp]
    · have hn : (!decide (p.1 = p.2)).toNat = 1 := by rw [decide_eq_false hp]; rfl
      rw [if_neg hp, hn, if_neg (by simp [l1, l2]), if_pos (by simp [num]), if_neg (by simp [l1, l2]; omega)]
      have e1 : (1 :: (bitsOf p.1 6 ++ bitsOf p.2 6) ++ (runsBits r ++ z)).drop 13 = runsBits r ++ z := by
        rw [List.cons_append, List.drop_succ_cons, List.drop_left' (by rw [List.length_append, l1, l2])]
      have e2 : ((1 :: (bitsOf p.1 6 ++ bitsOf p.2 6) ++ (runsBits r ++ z)).drop 1).take 6 = bitsOf p.1 6 := by
        rw [List.cons_append, List.drop_succ_cons, List.drop_zero, List.append_assoc, List.take_left' l1]
      have e3 : ((1 :: (bitsOf p.1 6 ++ bitsOf p.2 6) ++ (runsBits r ++ z)).drop 7).take 6 = bitsOf p.2 6 := by
        rw [List.cons_append, List.drop_succ_cons, List.append_assoc, List.drop_left' l1, List.take_left' l2]
      rw [e1, e2, e3, ih, num6 h1, num6 h2]
      simp [spans]
theorem vends_back {U : List Nat} (hU : RightN U) (z : List Nat) : vendsP (lastOf U) (vendBits U ++ z) = some U := by
  unfold vendsP vendBits
  cases short U with
  | true =>
    have h6 := bitsOf_len (runsF U).length 6
    rw [cond_true, byRuns, if_pos (by simp [num]), if_neg (by simp [h6])]
    have e1 : ((1 :: (bitsOf (runsF U).length 6 ++ runsBits (runsF U)) ++ z).drop 1).take 6 = bitsOf (runsF U).length 6 := by
      rw [List.cons_append, List.drop_succ_cons, List.drop_zero, List.append_assoc, List.take_left' h6]
    have e2 : (1 :: (bitsOf (runsF U).length 6 ++ runsBits (runsF U)) ++ z).drop 7 = runsBits (runsF U) ++ z := by
      rw [List.cons_append, List.drop_succ_cons, List.append_assoc, List.drop_left' h6]
    have h7 := runs_len U
    have h8 := right_few hU
    rw [e1, e2, num6 (by omega), runs_back z _ (runs_all (p := (· < 64)) U fun v hv => by have := hU.2 v hv; show v < 64; omega), spans_runs]
  | false =>
    have hl := eachBit_len U (lastOf U)
    rw [cond_false, byEach, if_neg (by simp [num]), if_neg (by simp [hl]; omega)]
    rw [List.cons_append, List.drop_succ_cons, List.drop_zero, each_back hU]
theorem byteAt_bit {l : List Nat} (h : Bin l) (j r : Nat) (hr : r < 8) : byteAt l j / 2 ^ (7 - r) % 2 = l.getD (8 * j + r) 0 := by
  unfold byteAt
  have h0 := h.getD (8 * j); have h1 := h.getD (8 * j + 1); have h2 := h.getD (8 * j + 2); have h3 := h.getD (8 * j + 3)
  have h4 := h.getD (8 * j + 4); have h5 := h.getD (8 * j + 5); have h6 := h.getD (8 * j + 6); have h7 := h.getD (8 * j + 7)
  have hc : r = 0 ∨ r = 1 ∨ r = 2 ∨ r = 3 ∨ r = 4 ∨ r = 5 ∨ r = 6 ∨ r = 7 := by omega
  rcases hc with rfl | rfl | rfl | rfl | rfl | rfl | rfl | rfl <;> (try simp only [Nat.add_zero]) <;> omega
def pad (l : List Nat) : Nat := 8 * ((l.length + 7) / 8) - l.length
theorem tbits_pack {l : List Nat} (h : Bin l) : tbits (packT l) = l ++ List.replicate (pad l) 0 := by
  unfold packT
  have hlen : (tbits ((packB l).map UInt8.ofNat)).length = (l ++ List.replicate (pad l) 0).length := by
    rw [tbits_len]; simp [packB_len, pad]; omega
  apply List.ext_getElem hlen
  intro i h1 h2
  have hi : i < 8 * ((packB l).map UInt8.ofNat).length := by rw [← tbits_len]; exact h1
  have e := tbits_at _ i hi
  rw [List.getElem?_eq_getElem h1] at e
  have hq : i / 8 < (packB l).length := by simp at hi; omega
  have e2 : ((packB l).map UInt8.ofNat)[i / 8]'(by simpa using hq) = UInt8.ofNat (byteAt l (i / 8)) := by simp [packB]
  rw [Option.some.inj e, e2, UInt8.toNat_ofNat', Nat.mod_eq_of_lt (byteAt_lt h _), byteAt_bit h _ _ (by omega), Nat.div_add_mod]
  rw [List.getElem_append, List.getD_eq_getElem?_getD]
  by_cases hl : i < l.length
  · rw [dif_pos hl, List.getElem?_eq_getElem hl]; rfl
  · rw [dif_neg hl, List.getElem?_eq_none (by omega), List.getElem_replicate]; rfl
theorem purp_eq {P Q : Nat → Bool} (h : ∀ i, i < 10 → P i = Q i) : purpBits P 10 = purpBits Q 10 := List.map_congr_left fun i hi => by rw [h i (List.mem_range.1 hi)]
theorem conText_eq {g : Nat} {P Q : Nat → Bool} {U : List Nat} (h : ∀ i, i < 10 → P i = Q i) : conText g P U = conText g Q U := by
  unfold conText conBits headBits
  rw [purp_eq h]
section
variable {g : Nat} {P : Nat → Bool} {U : List Nat}
theorem parts_back (hg : g ≤ 68719476735) (hU : RightN U) (z : List Nat) : codeP (conBits g P U ++ z) = 0 ∧ given (conBits g P U ++ z) = g ∧ (∀ i, i < 10 → purp (conBits g P U ++ z) i = P i) ∧ vends (conBits g P U ++ z) = some U := by
  have l1 := bitsOf_len 1 6
  have l2 := bitsOf_len g 36
  have l3 := purpBits_len P 10
  have l4 := bitsOf_len (lastOf U) 6
  have hl40 := lastOf_le hU
  have e : conBits g P U ++ z = bitsOf 1 6 ++ (bitsOf g 36 ++ (purpBits P 10 ++ (bitsOf (lastOf U) 6 ++ (vendBits U ++ z)))) := by simp only [conBits, headBits, List.append_assoc]
  have d6 : (conBits g P U ++ z).drop 6 = bitsOf g 36 ++ (purpBits P 10 ++ (bitsOf (lastOf U) 6 ++ (vendBits U ++ z))) := by rw [e, List.drop_left' l1]
  have d42 : (conBits g P U ++ z).drop 42 = purpBits P 10 ++ (bitsOf (lastOf U) 6 ++ (vendBits U ++ z)) := by
    rw [show 42 = 6 + 36 from rfl, ← List.drop_drop, d6, List.drop_left' l2]
  have d52 : (conBits g P U ++ z).drop 52 = bitsOf (lastOf U) 6 ++ (vendBits U ++ z) := by
    rw [show 52 = 42 + 10 from rfl, ← List.drop_drop, d42, List.drop_left' l3]
  have d58 : (conBits g P U ++ z).drop 58 = vendBits U ++ z := by
    rw [show 58 = 52 + 6 from rfl, ← List.drop_drop, d52, List.drop_left' l4]
  have hlast : lastP (conBits g P U ++ z) = lastOf U := by
    unfold lastP
    rw [d52, List.take_left' l4, num6 (by omega)]
  have hv : vends (conBits g P U ++ z) = some U := by
    unfold vends
    rw [hlast, d58, vends_back hU]
  have hlen : 59 ≤ (conBits g P U ++ z).length := by
    unfold conBits
    rw [List.length_append, List.length_append, headBits_len]
    have : 1 ≤ (vendBits U).length := by
      unfold vendBits
      cases short U with
      | true => rw [cond_true, byRuns_len]; omega
      | false => rw [cond_false, byEach_len]; omega
    omega
  refine ⟨?_, ?_, ?_, hv⟩
  · unfold codeP
    have h6 : num ((conBits g P U ++ z).take 6) = 1 := by rw [e, List.take_left' l1]; decide
    rw [if_neg (by omega), if_neg (by rw [h6]; decide), if_neg (by omega), hv]
  · unfold given
    rw [d6, List.take_left' l2, num_bitsOf]
    exact Nat.mod_eq_of_lt (by simp; omega)
  · intro i hi
    unfold purp
    have e2 : (conBits g P U ++ z).drop (42 + i) = (purpBits P 10).drop i ++ (bitsOf (lastOf U) 6 ++ (vendBits U ++ z)) := by
      rw [← List.drop_drop, d42, List.drop_append_of_le_length (by omega)]
    have e3 : (purpBits P 10).drop i = (P i).toNat :: (purpBits P 10).drop (i + 1) := by
      have h : i < (purpBits P 10).length := by omega
      rw [List.drop_eq_getElem_cons h]
      congr 1
      simp [purpBits]
    rw [e2, e3, List.cons_append, List.take_succ_cons, List.take_zero]
    cases P i <;> rfl
/-- WHAT IS WRITTEN IS READ AS IT WAS. -/
theorem back (hg : g ≤ 68719476735) (hU : RightN U) : (readC (conText g P U)).1 = g ∧ (∀ i, i < 10 → (readC (conText g P U)).2.1 i = P i) ∧ (readC (conText g P U)).2.2.1 = U ∧ (readC (conText g P U)).2.2.2 = 0 := by
  have hlen : (packT (conBits g P U)).length ≤ 400 := by
    rw [packT_len]
    have := conBits_len g P U
    have := lastOf_le hU
    omega
  have hr := (read_write _ hlen).1
  obtain ⟨p1, p2, p3, p4⟩ := parts_back (P := P) hg hU (List.replicate (pad (conBits g P U)) 0)
  rw [← tbits_pack (conBits_bin g P U)] at p1 p2 p3 p4
  have e : readC (conText g P U) = (given (tbits (packT (conBits g P U))), purp (tbits (packT (conBits g P U))), U, 0) := by
    unfold readC
    rw [show readF (conText g P U) = (packT (conBits g P U), 0) from hr]
    dsimp only
    rw [if_neg (by simp), if_neg (by rw [p1]; simp), p4]
    unfold readL
    rw [Option.getD_some, if_pos ⟨by rw [p2]; exact nat_check hg hU, by rw [p2]; exact conText_eq p3⟩]
  rw [e]
  exact ⟨p2, p3, rfl, rfl⟩
end
end Go.Proofs.YtepnalbefjicgaaGreatDoor.ConQ
end

section
namespace Go.Proofs.YtepnalbefjicgaaGreatDoor.Abs
open Go.RowKit Mem Facts
section
variable {X A A' : Nat → Prop} {φ φ' : Nat → Pl} {w w' : World} {P : Program} {tb : List Ty} {T : Nat} {e ee e' : Ty} {N : Env} {M : Nat → Prop} {o : Oper} {s : S} {a : Act} {x y : Operand} {el : Nat} {L : List UInt8}
end
section
variable {P : Program} {N : Env} {l r : List Oper} {o : Oper} {tm : List (Nat × V)} {st : List (Nat × Option Blk)} {nx nt : Nat} {tr : List Tr} {K : S → List Tr → Prop} {tb : List Ty} {d T : Nat} {t t' : TypeId} {x y z : Operand} {a b n : Int} {p q : List UInt8} {u v : Bool} {e ee : Ty} {kd : IntKind}
theorem x_stO {α : Type} (f : α → V) {L : List α} {a1 a0 : α} {w : V} {m i0 off el sz : Nat} (j : Nat) (htb : TbOk P tb) (k : ARun P N l K r ⟨tm, (m, some (.els el sz ((L.set j a1).map f))) :: st, nx, nt⟩ (tr ++ [trOf l o ⟨[(x, .loc m i0 off), (y, w)], [(m, .els el sz (L.map f))]⟩ [(m, some (.els el sz ((L.set j a1).map f)))]])) (ho : o.op = .store t x y := by rfl) (hx : S.ev ⟨tm, st, nx, nt⟩ x = some (.loc m i0 off) := by rfl) (hy : S.ev ⟨tm, st, nx, nt⟩ y = some w := by rfl) (hg : guardV l o ⟨tm, st, nx, nt⟩ = some true := by rfl) (hd : o.dst = none := by rfl) (hB : S.blk ⟨tm, st, nx, nt⟩ m = some (.els el sz (L.map f)) := by rfl) (hT' : nth tb t = some e := by rfl) (hi : i0 = j := by omega) (hL : L[j]? = some a0 := by assumption) (h1 : w.cells.all V.one = true := by rfl) (h2 : w.cells.length = e.size := by rfl) (hp : putV (f a0) off w = some (f a1) := by rfl) (hel : (!(f a0).one || Nat.beq w.cells.length 1) = true := by rfl) : ARun P N l K (o :: r) ⟨tm, st, nx, nt⟩ tr := r_set hg hd (law_store htb ho hT' (i := i0) (el := f a0) (by subst hi; rw [List.getElem?_map, hL]; rfl) h1 h2 hp hel (by subst hi; rw [List.map_set])) (hT hx (hT hy (hN hB h0))) k
theorem x_ldO {α : Type} (f : α → V) {L : List α} {a0 : α} {w : V} {m i0 off el sz : Nat} (j : Nat) (htb : TbOk P tb) (k : ARun P N l K r ⟨(d, w) :: tm, st, nx, nt⟩ (tr ++ [trOf l o ⟨[(x, .loc m i0 off)], [(m, .els el sz (L.map f))]⟩ []])) (ho : o.op = .load t x := by rfl) (hx : S.ev ⟨tm, st, nx, nt⟩ x = some (.loc m i0 off) := by rfl) (hg : guardV l o ⟨tm, st, nx, nt⟩ = some true := by rfl) (hd : o.dst = some d := by rfl) (hlt : Nat.blt d nt = true := by rfl) (hB : S.blk ⟨tm, st, nx, nt⟩ m = some (.els el sz (L.map f)) := by rfl) (hT' : nth tb t = some e := by rfl) (hi : i0 = j := by omega) (hL : L[j]? = some a0 := by assumption) (hv : subV (f a0).cells off e.agg e.size = some w := by rfl) : ARun P N l K (o :: r) ⟨tm, st, nx, nt⟩ tr := r_val hg hd hlt (law_load htb ho hT' (i := i0) (el := f a0) (by subst hi; rw [List.getElem?_map, hL]; rfl) hv) (hT hx (hN hB h0)) k
end
end Go.Proofs.YtepnalbefjicgaaGreatDoor.Abs
namespace Go.Proofs.YtepnalbefjicgaaGreatDoor.Abs
open Go.RowKit Mem Facts
section
variable {P : Program} {N : Env} {c : Code} {Q : Exit → S → Prop}
/-- The row n of one's own is no more than what slot t holds: a frozen slice. -/
theorem awp_freeze {α : Type} {f : α → V} {L : List α} {tm : List (Nat × V)} {st : List (Nat × Option Blk)} {nx nt T sz m : Nat} (n t : Nat) (hm : m = L.length) (hf : ∀ a, (f a).names = []) (k : AWp P N c Q ⟨(t, .fro (L.map f)) :: tm, (n, none) :: st, nx, nt⟩)
    (hB : S.blk ⟨tm, st, nx, nt⟩ n = some (.els T sz (L.map f)) := by rfl) (ht : lk tm t = some (.own n 0 m) := by rfl) : AWp P N c Q ⟨tm, st, nx, nt⟩ := fun M φ a w hr => by
  let M' : Nat → Prop := fun b => M b ∧ (φ n).blk ≠ some b
  let M2 : Nat → Prop := fun b => M b ∧ (φ n).blk = some b
  let N2 : Env := ⟨⟨fun b => M' b ∨ N b, N.g⟩, 0, N.pl, N.df⟩
  have hset : ∀ b, (M2 b ∨ N2 b) ↔ (M b ∨ N b) := fun b => by
    show (M b ∧ (φ n).blk = some b) ∨ (M b ∧ (φ n).blk ≠ some b) ∨ N b ↔ _
    by_cases e : (φ n).blk = some b
    · simp [e]
    · simp [e]
  obtain ⟨hn, hbk⟩ := hr.st n _ hB
  have hbl : ∀ q, S.blk ⟨[], [(n, some (.els T sz (L.map f)))], nx, nt⟩ q = if n = q then some (.els T sz (L.map f)) else none := fun q => by
    unfold S.blk
    simp only [lk_put]
    by_cases e : n = q <;> simp [e, lk]
  have r2 : Rel N2 M2 (· < nx) φ ⟨[], [(n, some (.els T sz (L.map f)))], nx, nt⟩ a w := by
    refine ⟨fun q v hq => (by cases hq), hr.nt, fun q b hb => ?_, fun q q' b b' x e1 e2 e3 e4 => ?_, fun b hb => hr.lim b ((hset b).1 hb), fun b h1 h2 => ?_, hr.df, fun q hq => absurd hq (Nat.not_lt_zero q), ?_⟩
    · rw [hbl] at hb
      split at hb
      · rename_i e
        subst e; cases hb
        refine ⟨hn, ?_⟩
        obtain ⟨h1, h2, h3, h4, h5⟩ := hbk
        refine ⟨h1, h2, h3, h4, h5.imp id ?_⟩
        rintro ⟨b, cur, g1, g2, g3, g4, g5, g6, g7⟩
        refine ⟨b, cur, g1, ⟨g2, g1⟩, g3, g4, g5, g6, fun i j x u hx hu => ?_⟩
        obtain ⟨y, hy, hq⟩ := g7 i j x u hx hu
        exact ⟨y, hy, hq.mono (fun b _ h => (hset b).1 h) (.refl _ w) (fun _ h => h) fun _ _ => rfl⟩
      · cases hb
    · rw [hbl] at e1 e2
      split at e1
      · split at e2
        · rename_i h1 h2; exact h1 ▸ h2
        · cases e2
      · cases e1
    · rcases h2 with h2 | h2
      · exact h2.2 h1.2
      · exact hr.dis b h1.1 h2
    · exact hr.gl.sub fun b h => (hset b).1 h
  have hv := (hr.tm t _ ht)
  have hv2 : Rep (fun b => M2 b ∨ N2 b) (· < nx) φ w (.own n 0 m) (a.tmps.getD t undef) := hv.2.mono (fun b _ h => (hset b).1 h) (.refl _ w) (fun _ h => h) fun _ _ => rfl
  have hz : Fz N2 w (.fro (L.map f)) (a.tmps.getD t undef) := by
    refine r2.frz (b := fun q => if n = q then some (.els T sz (L.map f)) else none) (fun q k h => by rw [hbl]; exact h) hv2 ?_ ?_
    · show (match (if n = n then some (Blk.els T sz (L.map f)) else none) with
        | some (.els _ _ xs) => some (V.fro ((xs.drop 0).take m))
        | _ => none) = _
      rw [if_pos rfl]
      simp only [List.drop_zero]
      rw [List.take_of_length_le (by rw [List.length_map, hm]; exact Nat.le_refl _)]
    · show match (if n = n then some (Blk.els T sz (L.map f)) else none) with
        | some (.els _ _ xs) => (∀ x ∈ xs, x.names = []) ∧ 0 + m ≤ xs.length
        | _ => False
      rw [if_pos rfl]
      refine ⟨fun x hx => ?_, by rw [List.length_map, hm]; omega⟩
      obtain ⟨y, _, rfl⟩ := List.mem_map.1 hx
      exact hf y
  have hsub : ∀ b, M' b ∨ N b → M b ∨ N b := fun b h => h.imp (·.1) id
  have hbn : ∀ q, S.blk ⟨(t, .fro (L.map f)) :: tm, (n, none) :: st, nx, nt⟩ q = if n = q then none else S.blk ⟨tm, st, nx, nt⟩ q := fun q => by
    unfold S.blk
    simp only [lk_put]
    by_cases e : n = q <;> simp [e]
  have r3 : Rel N M' (· < nx) φ ⟨(t, .fro (L.map f)) :: tm, (n, none) :: st, nx, nt⟩ a w := by
    refine ⟨fun q v hq => ?_, hr.nt, fun q b hb => ?_, fun q q' b b' x e1 e2 e3 e4 => ?_, fun b hb => hr.lim b (hsub b hb), fun b h1 h2 => hr.dis b h1.1 h2, hr.df, hr.pin, hr.gl.sub hsub⟩
    · change lk ((t, .fro (L.map f)) :: tm) q = some v at hq
      rw [lk_put] at hq
      split at hq
      · rename_i e
        subst e; cases hq
        exact ⟨hv.1, .fz (hz.mono (fun b _ h => h) (.refl _ w))⟩
      · obtain ⟨g1, g2⟩ := hr.tm q v hq
        exact ⟨g1, g2.mono (fun b _ h => hsub b h) (.refl _ w) (fun _ h => h) fun _ _ => rfl⟩
    · rw [hbn] at hb
      split at hb
      · cases hb
      · rename_i hne
        obtain ⟨g1, g2⟩ := hr.st q b hb
        have hdif : ∀ y, (φ q).blk = some y → (φ n).blk ≠ some y := fun y h1 h2 => hne (hr.inj n q _ _ y hB hb h2 h1)
        refine ⟨g1, ?_⟩
        cases b with
        | els T' sz' xs =>
          obtain ⟨h1, h2, h3, h4, h5⟩ := g2
          refine ⟨h1, h2, h3, h4, h5.imp id ?_⟩
          rintro ⟨b, cur, k1, k2, k3, k4, k5, k6, k7⟩
          refine ⟨b, cur, k1, ⟨k2, hdif b k1⟩, k3, k4, k5, k6, fun i j x u hx hu => ?_⟩
          obtain ⟨y, hy, hq⟩ := k7 i j x u hx hu
          exact ⟨y, hy, hq.mono (fun b _ h => hsub b h) (.refl _ w) (fun _ h => h) fun _ _ => rfl⟩
        | map es =>
          obtain ⟨b, ents, clock, k1, k2, k3, k4, k5⟩ := g2
          exact ⟨b, ents, clock, k1, ⟨k2, hdif b k1⟩, k3, k4, fun i k v e hk he => ⟨(k5 i k v e hk he).1.mono (fun b _ h => hsub b h) (.refl _ w), (k5 i k v e hk he).2.mono (fun b _ h => hsub b h) (.refl _ w) (fun _ h => h) fun _ _ => rfl⟩⟩
        | sit s pos =>
          obtain ⟨h0, b, k1, k2, k3⟩ := g2
          exact ⟨h0, b, k1, ⟨k2, hdif b k1⟩, k3⟩
    · rw [hbn] at e1 e2
      split at e1
      · cases e1
      · split at e2
        · cases e2
        · exact hr.inj q q' b b' x e1 e2 e3 e4
  refine wp_mono (k M' φ a w r3) fun e a' w' ⟨M3, φ3, s3, h1, h2, h3, h4⟩ => ⟨M3, φ3, s3, ⟨h1.os, h1.tape, h1.output, h1.size, fun b hb hM => h1.block b hb fun h => hM h.1⟩, fun b hb h => (h2 b hb h).1, h3, h4⟩
/-- The row n that a row's struct holds in its cell i is no more than that: a frozen slice. -/
theorem awp_freezeR {α : Type} {f : α → V} {L : List α} {tm : List (Nat × V)} {st : List (Nat × Option Blk)} {nx nt T sz T2 sz2 m : Nat} {cs cs' : List V} (n2 i n : Nat) (hm : m = L.length) (hf : ∀ a, (f a).names = []) (k : AWp P N c Q ⟨tm, (n2, some (.els T2 sz2 [.agg cs'])) :: (n, none) :: st, nx, nt⟩)
    (hB2 : S.blk ⟨tm, st, nx, nt⟩ n2 = some (.els T2 sz2 [.agg cs]) := by rfl) (hi : nth cs i = some (.own n 0 m) := by rfl) (hcs : cs.set i (.fro (L.map f)) = cs' := by rfl) (hB : S.blk ⟨tm, st, nx, nt⟩ n = some (.els T sz (L.map f)) := by rfl) (hne : Nat.beq n2 n = false := by rfl) : AWp P N c Q ⟨tm, st, nx, nt⟩ := fun M φ a w hr => by
  let M' : Nat → Prop := fun b => M b ∧ (φ n).blk ≠ some b
  let M2 : Nat → Prop := fun b => M b ∧ (φ n).blk = some b
  let N2 : Env := ⟨⟨fun b => M' b ∨ N b, N.g⟩, 0, N.pl, N.df⟩
  have hnn : n2 ≠ n := fun e => by rw [e, Nat.beq_refl] at hne; cases hne
  have hset : ∀ b, (M2 b ∨ N2 b) ↔ (M b ∨ N b) := fun b => by
    show (M b ∧ (φ n).blk = some b) ∨ (M b ∧ (φ n).blk ≠ some b) ∨ N b ↔ _
    by_cases e : (φ n).blk = some b
    · simp [e]
    · simp [e]
  obtain ⟨hn, hbk⟩ := hr.st n _ hB
  have hbl : ∀ q, S.blk ⟨[], [(n, some (.els T sz (L.map f)))], nx, nt⟩ q = if n = q then some (.els T sz (L.map f)) else none := fun q => by
    unfold S.blk
    simp only [lk_put]
    by_cases e : n = q <;> simp [e, lk]
  have r2 : Rel N2 M2 (· < nx) φ ⟨[], [(n, some (.els T sz (L.map f)))], nx, nt⟩ a w := by
    refine ⟨fun q v hq => (by cases hq), hr.nt, fun q b hb => ?_, fun q q' b b' x e1 e2 e3 e4 => ?_, fun b hb => hr.lim b ((hset b).1 hb), fun b h1 h2 => ?_, hr.df, fun q hq => absurd hq (Nat.not_lt_zero q), ?_⟩
    · rw [hbl] at hb
      split at hb
      · rename_i e
        subst e; cases hb
        refine ⟨hn, ?_⟩
        obtain ⟨h1, h2, h3, h4, h5⟩ := hbk
        refine ⟨h1, h2, h3, h4, h5.imp id ?_⟩
        rintro ⟨b, cur, g1, g2, g3, g4, g5, g6, g7⟩
        refine ⟨b, cur, g1, ⟨g2, g1⟩, g3, g4, g5, g6, fun i j x u hx hu => ?_⟩
        obtain ⟨y, hy, hq⟩ := g7 i j x u hx hu
        exact ⟨y, hy, hq.mono (fun b _ h => (hset b).1 h) (.refl _ w) (fun _ h => h) fun _ _ => rfl⟩
      · cases hb
    · rw [hbl] at e1 e2
      split at e1
      · split at e2
        · rename_i h1 h2; exact h1 ▸ h2
        · cases e2
      · cases e1
    · rcases h2 with h2 | h2
      · exact h2.2 h1.2
      · exact hr.dis b h1.1 h2
    · exact hr.gl.sub fun b h => (hset b).1 h
  have hz : ∀ x, Rep (fun b => M b ∨ N b) (· < nx) φ w (.own n 0 m) x → Fz N2 w (.fro (L.map f)) x := fun x hx => by
    have hv2 : Rep (fun b => M2 b ∨ N2 b) (· < nx) φ w (.own n 0 m) x := hx.mono (fun b _ h => (hset b).1 h) (.refl _ w) (fun _ h => h) fun _ _ => rfl
    refine r2.frz (b := fun q => if n = q then some (.els T sz (L.map f)) else none) (fun q k h => by rw [hbl]; exact h) hv2 ?_ ?_
    · show (match (if n = n then some (Blk.els T sz (L.map f)) else none) with
        | some (.els _ _ xs) => some (V.fro ((xs.drop 0).take m))
        | _ => none) = _
      rw [if_pos rfl]
      simp only [List.drop_zero]
      rw [List.take_of_length_le (by rw [List.length_map, hm]; exact Nat.le_refl _)]
    · show match (if n = n then some (Blk.els T sz (L.map f)) else none) with
        | some (.els _ _ xs) => (∀ x ∈ xs, x.names = []) ∧ 0 + m ≤ xs.length
        | _ => False
      rw [if_pos rfl]
      refine ⟨fun x hx => ?_, by rw [List.length_map, hm]; omega⟩
      obtain ⟨y, _, rfl⟩ := List.mem_map.1 hx
      exact hf y
  have hsub : ∀ b, M' b ∨ N b → M b ∨ N b := fun b h => h.imp (·.1) id
  have hbn : ∀ q, S.blk ⟨tm, (n2, some (.els T2 sz2 [.agg cs'])) :: (n, none) :: st, nx, nt⟩ q = if n2 = q then some (.els T2 sz2 [.agg cs']) else if n = q then none else S.blk ⟨tm, st, nx, nt⟩ q := fun q => by
    unfold S.blk
    simp only [lk_put]
    by_cases e : n2 = q <;> by_cases e2 : n = q <;> simp [e, e2]
  have keep : ∀ q b, S.blk ⟨tm, st, nx, nt⟩ q = some b → n ≠ q → BlkAt (fun b => M b ∨ N b) M (· < nx) φ w (φ q) b → BlkAt (fun b => M' b ∨ N b) M' (· < nx) φ w (φ q) b := fun q b hb hq g2 => by
    have hdif : ∀ y, (φ q).blk = some y → (φ n).blk ≠ some y := fun y h1 h2 => hq (hr.inj n q _ _ y hB hb h2 h1)
    cases b with
    | els T' sz' xs =>
      obtain ⟨h1, h2, h3, h4, h5⟩ := g2
      refine ⟨h1, h2, h3, h4, h5.imp id ?_⟩
      rintro ⟨b, cur, k1, k2, k3, k4, k5, k6, k7⟩
      refine ⟨b, cur, k1, ⟨k2, hdif b k1⟩, k3, k4, k5, k6, fun i j x u hx hu => ?_⟩
      obtain ⟨y, hy, hq⟩ := k7 i j x u hx hu
      exact ⟨y, hy, hq.mono (fun b _ h => hsub b h) (.refl _ w) (fun _ h => h) fun _ _ => rfl⟩
    | map es =>
      obtain ⟨b, ents, clock, k1, k2, k3, k4, k5⟩ := g2
      exact ⟨b, ents, clock, k1, ⟨k2, hdif b k1⟩, k3, k4, fun i k v e hk he => ⟨(k5 i k v e hk he).1.mono (fun b _ h => hsub b h) (.refl _ w), (k5 i k v e hk he).2.mono (fun b _ h => hsub b h) (.refl _ w) (fun _ h => h) fun _ _ => rfl⟩⟩
    | sit s pos =>
      obtain ⟨h0, b, k1, k2, k3⟩ := g2
      exact ⟨h0, b, k1, ⟨k2, hdif b k1⟩, k3⟩
  obtain ⟨hn2, hb2⟩ := hr.st n2 _ hB2
  have hrow : BlkAt (fun b => M' b ∨ N b) M' (· < nx) φ w (φ n2) (.els T2 sz2 [.agg cs']) := by
    have h0 := keep n2 _ hB2 (fun e => hnn e.symm) hb2
    obtain ⟨h1, h2, h3, h4, h5⟩ := h0
    obtain ⟨_, _, _, _, o5⟩ := hb2
    rw [nth_eq] at hi
    subst hcs
    obtain ⟨q1, q2⟩ := h4 (.agg cs) (List.mem_singleton.2 rfl)
    have hlen : (cs.set i (.fro (L.map f))).length = cs.length := List.length_set
    refine ⟨h1, h2, h3, fun x hx => ?_, ?_⟩
    · rw [List.mem_singleton] at hx
      subst hx
      refine ⟨by rw [← q1]; exact hlen, fun u hu => ?_⟩
      rcases List.mem_or_eq_of_mem_set hu with hu | rfl
      · exact q2 u hu
      · rfl
    · rcases h5 with h5 | ⟨b, cur, k1, k2, k3, k4, k5, k6, k7⟩
      · cases h5.2.1
      · rcases o5 with o5 | ⟨b', cur', o1, o2, o3, o4, o6, o7, o8⟩
        · cases o5.2.1
        rw [k1] at o1
        cases o1
        rw [k3] at o3
        cases o3
        refine .inr ⟨b, cur, k1, k2, k3, k4, k5, k6, fun p j x u hx hu => ?_⟩
        rcases p with _ | p
        · cases hx
          change (cs.set i (.fro (L.map f)))[j]? = some u at hu
          by_cases hj : i = j
          · subst hj
            have hil : i < cs.length := (List.getElem?_eq_some_iff.1 hi).1
            rw [List.getElem?_set_self hil] at hu
            cases hu
            obtain ⟨y, hy, hq⟩ := o8 0 i (.agg cs) (.own n 0 m) rfl hi
            exact ⟨y, hy, .fz ((hz y hq).mono (fun b _ h => h) (.refl _ w))⟩
          · rw [List.getElem?_set_ne hj] at hu
            exact k7 0 j (.agg cs) u rfl hu
        · cases hx
  have r3 : Rel N M' (· < nx) φ ⟨tm, (n2, some (.els T2 sz2 [.agg cs'])) :: (n, none) :: st, nx, nt⟩ a w := by
    refine ⟨fun q v hq => ?_, hr.nt, fun q b hb => ?_, fun q q' b b' x e1 e2 e3 e4 => ?_, fun b hb => hr.lim b (hsub b hb), fun b h1 h2 => hr.dis b h1.1 h2, hr.df, hr.pin, hr.gl.sub hsub⟩
    · obtain ⟨g1, g2⟩ := hr.tm q v hq
      exact ⟨g1, g2.mono (fun b _ h => hsub b h) (.refl _ w) (fun _ h => h) fun _ _ => rfl⟩
    · rw [hbn] at hb
      split at hb
      · rename_i e
        subst e; cases hb
        exact ⟨hn2, hrow⟩
      · split at hb
        · cases hb
        · rename_i h1 h2
          obtain ⟨g1, g2⟩ := hr.st q b hb
          exact ⟨g1, keep q b hb h2 g2⟩
    · have old : ∀ q b, S.blk ⟨tm, (n2, some (.els T2 sz2 [.agg cs'])) :: (n, none) :: st, nx, nt⟩ q = some b → ∃ b0, S.blk ⟨tm, st, nx, nt⟩ q = some b0 := fun q b hb => by
        rw [hbn] at hb
        split at hb
        · rename_i e; subst e; exact ⟨_, hB2⟩
        · split at hb
          · cases hb
          · exact ⟨_, hb⟩
      obtain ⟨b0, e1'⟩ := old q b e1
      obtain ⟨b1, e2'⟩ := old q' b' e2
      exact hr.inj q q' b0 b1 x e1' e2' e3 e4
  refine wp_mono (k M' φ a w r3) fun e a' w' ⟨M3, φ3, s3, h1, h2, h3, h4⟩ => ⟨M3, φ3, s3, ⟨h1.os, h1.tape, h1.output, h1.size, fun b hb hM => h1.block b hb fun h => hM h.1⟩, fun b hb h => (h2 b hb h).1, h3, h4⟩
end
end Go.Proofs.YtepnalbefjicgaaGreatDoor.Abs
namespace Go.Proofs.YtepnalbefjicgaaGreatDoor.Abs
open Go.RowKit Mem Facts
/-- THE CONTRACT of a call that panics: of the rows that it was handed nothing is told. -/
def MPanG (P : Program) (g : Glob) (f : FuncId) (args : List V) (st : List Blk) (ch : List PanicEntry) : Prop :=
  ∀ (N M : Nat → Prop) (φ : Nat → Pl) (w : World) (vs : Array Value), RowsAt g N M (· < st.length) φ (st.map some) w → args.length = vs.size →
    (∀ (i : Nat) v x, args[i]? = some v → vs[i]? = some x → Rep (fun b => M b ∨ N b) (· < st.length) φ w v x) →
    Calls P f vs w (fun e w' => e = .panicked ch ∧ Stays M w w')
def MPan (P : Program) (f : FuncId) (args : List V) (st : List Blk) (ch : List PanicEntry) : Prop := ∀ g, MPanG P g f args st ch
def PEnd (ch : List PanicEntry) : Exit → S → Prop
  | .panic ch', _ => ch' = ch
  | _, _ => False
section
variable {P : Program} {tb : List Ty} {N : Env} {M A : Nat → Prop} {φ : Nat → Pl} {s : S} {a : Act} {w w' : World} {o : Oper} {l : List Oper} {Q : Exit → S → Prop}
/-- An operation that panics: what it changes lies in the rows ns. -/
def PanLaw (P : Program) (N : Env) (o : Oper) (fp : Fp) (ch : List PanicEntry) (ns : List Nat) : Prop :=
  ∀ s M A φ a w, Holds fp s → Rel N M A φ s a w →
    o.wp P a w (fun _ _ => False) (fun e a' w' => e = .panic ch ∧ a' = a ∧ ∃ H : Nat → Prop, (∀ b, H b → M b) ∧ (∀ n k b, s.blk n = some k → n ∉ ns → (φ n).blk = some b → ¬ H b) ∧ Stays H w w')
/-- At the state s the operation o panics, and Q holds of what is left: the rows but ns. -/
structure PanAt (P : Program) (N : Env) (l : List Oper) (o : Oper) (Q : Exit → S → Prop) (s : S) : Prop where
  ex : ∃ fp ch ns, guardV l o s = some true ∧ PanLaw P N o fp ch ns ∧ Holds fp s ∧ Q (.panic ch) ⟨s.tm, ns.map (fun n => (n, none)) ++ s.st, s.nx, s.nt⟩
end
section
variable {P : Program} {N : Env} {l : List Oper} {o : Oper} {tm : List (Nat × V)} {st : List (Nat × Option Blk)} {nx nt : Nat} {Q : Exit → S → Prop}
end
end Go.Proofs.YtepnalbefjicgaaGreatDoor.Abs
namespace Go.Proofs.YtepnalbefjicgaaGreatDoor.Abs
open Go.RowKit Mem Facts
section
variable {P : Program} {tb : List Ty} {N : Env} {M A : Nat → Prop} {φ : Nat → Pl} {s : S} {a : Act} {w : World} {o : Oper} {l : List Oper}
end
/-! ### The deferred call -/
section
variable {P : Program} {Q : Exit → Act → List Frame → World → Prop} {a : Act} {cs : List Frame} {w : World} {ops : Array Oper} {o : Oper} {i : Nat} {rest : List Nat}
end
/-! ### The part ahead of the deferring one -/
/-- As AWp; what stands behind is any word that is kept as the world goes on. -/
def BWp (P : Program) (N : Env) (c : Code) (J : (Nat → Prop) → (Nat → Pl) → Exit → Act → World → Prop) (s : S) : Prop :=
  ∀ M φ a w, Rel N M (· < s.nx) φ s a w → c.wp P (fun e a' w' => ∃ M' φ', Stays M w w' ∧ (∀ b, b < w.heap.size → M' b → M b) ∧ J M' φ' e a' w') a w
end Go.Proofs.YtepnalbefjicgaaGreatDoor.Abs
end

section
namespace Go.Proofs.YtepnalbefjicgaaGreatDoor.ConC
open Go.RowKit Mem Abs Scan BitsP ConP ConQ

abbrev natV (n : Nat) : V := .int .i64 (n : Int)
abbrev natsV (l : List Nat) : V := .fro (l.map natV)
abbrev intsV (L : List Int) : V := .fro (L.map (V.int .i64))
abbrev purV (P : Nat → Bool) : List V := [.bool (P 0), .bool (P 1), .bool (P 2), .bool (P 3), .bool (P 4), .bool (P 5), .bool (P 6), .bool (P 7), .bool (P 8), .bool (P 9)]
abbrev conI (g : Int) (P : Nat → Bool) (L : List Int) : V := .agg [.int .i64 g, .bool (P 0), .bool (P 1), .bool (P 2), .bool (P 3), .bool (P 4), .bool (P 5), .bool (P 6), .bool (P 7), .bool (P 8), .bool (P 9), intsV L]
abbrev conN (g : Nat) (P : Nat → Bool) (U : List Nat) : V := .agg [.int .i64 (g : Int), .bool (P 0), .bool (P 1), .bool (P 2), .bool (P 3), .bool (P 4), .bool (P 5), .bool (P 6), .bool (P 7), .bool (P 8), .bool (P 9), natsV U]
theorem ints_len {L : List Int} (h : (intsV L).Lim) : L.length ≤ 140737488355328 := by
  rw [intsV, V.Lim, List.length_map] at h
  exact h.1
theorem con_len {g : Int} {P : Nat → Bool} {L : List Int} (h : (conI g P L).Lim) : L.length ≤ 140737488355328 := by
  rw [conI, V.Lim] at h
  exact ints_len h.2.2.2.2.2.2.2.2.2.2.2.1
theorem at_map {α : Type} {f : α → V} {L : List α} {k : Nat} {x : α} (h : L[k]? = some x) : (L.map f)[k]? = some (f x) := by rw [List.getElem?_map, h]; rfl
theorem getD_at {L : List Int} {k : Nat} {x : Int} (h : L[k]? = some x) : L.getD k 0 = x := by rw [List.getD_eq_getElem?_getD, h]; rfl
set_option maxRecDepth 100000 in
set_option maxHeartbeats 4000000 in
theorem check_v {g : Int} {P : Nat → Bool} {L : List Int} : ACalls Tryz.prog 61 [conI g P L] (.int .i64 ((GrantP.check g L : Nat) : Int)) := ACalls.lim fun hl => by
  have hlen := con_len hl.1
  clear hl
  have hml : (L.map (V.int .i64)).length = L.length := List.length_map _
  unfold GrantP.check GrantP.codeG
  by_cases hg : g < 0 ∨ 68719476735 < g
  · rw [if_pos hg, if_neg (by decide)]
    refine fun1 tb_ok Tryz.func61 rfl Tryz.ntmps61 Tryz.results61 rfl fun N => ?_
    repeat' (first | refine zt ?_ | (refine isR ?_; first | refine zo ?_ | refine zA ?_ | refine zL ?_ | refine zc1 ?_ | refine zc2 ?_ | refine zc3 ?_ | refine zI ?_ | (refine zs1 ?_ ?_ <;> intro hc) | (refine zs2 ?_ ?_ <;> intro hc) | (refine zs3 ?_ ?_ <;> intro hc)) | refine awp_split rfl (fun hb => ?_) (fun hb => ?_) | refine zr ?_ | exact x_le)
    all_goals first | rfl | (exfalso; omega)
  · rw [if_neg hg, if_pos rfl]
    have hg1 : ¬ g < 0 := by omega
    have hg2 : ¬ 68719476735 < g := by omega
    refine fun1 tb_ok Tryz.func61 rfl Tryz.ntmps61 Tryz.results61 rfl fun N => ?_
    repeat' (first | refine zt ?_ | (refine isR ?_; first | refine zo ?_ | refine zA ?_ | refine zL ?_ | refine zc1 ?_ | refine zc2 ?_ | refine zc3 ?_ | refine zI ?_ | (refine zs1 ?_ ?_ <;> intro hc) | (refine zs2 ?_ ?_ <;> intro hc) | (refine zs3 ?_ ?_ <;> intro hc)) | refine awp_split rfl (fun hb => ?_) (fun hb => ?_) | refine zr ?_ | exact x_le)
    refine awp_for (fun k => ⟨[(1, .fp (V.cells (conI g P L)) 0), (14, intsV L), (15, .int .i64 ((L.map (V.int .i64)).length : Int)), (16, .int .i64 (k : Int))], [], 0, 42⟩) (fun k => k ≤ L.length ∧ scan (GrantP.codeV L) k = 0) L.length 0 (by exact x_le) ⟨Nat.zero_le _, rfl⟩ ?_
    rintro k ⟨hk, hs⟩
    by_cases hk2 : k < L.length
    · have hx : L[k]? = some L[k] := by simp [hk2]
      have hd := getD_at hx
      have hst := scan_stop (f := GrantP.codeV L) (k := k) (n := L.length) hs
      have hnx := scan_next (f := GrantP.codeV L) (k := k) hs
      generalize L[k] = x at *
      have hm := at_map (f := V.int .i64) hx
      by_cases h1 : x < 1 ∨ 40 < x
      · have hc : GrantP.codeV L k = 3 := by unfold GrantP.codeV; rw [hd, if_pos h1]
        rw [hst (by rw [hc]; decide) hk2, hc]
        repeat' (first | refine zt ?_ | (refine isR ?_; first | refine zo ?_ | refine zA ?_ | refine zL ?_ | refine zc1 ?_ | refine zc2 ?_ | refine zc3 ?_ | refine zI ?_ | (refine zs1 ?_ ?_ <;> intro hc) | (refine zs2 ?_ ?_ <;> intro hc) | (refine zs3 ?_ ?_ <;> intro hc)) | refine awp_split rfl (fun hb => ?_) (fun hb => ?_) | refine zr ?_ | exact x_le)
        all_goals first | rfl | (exfalso; omega)
      · have h2 : ¬ x < 1 := by omega
        have h3 : ¬ 40 < x := by omega
        rcases Nat.eq_zero_or_pos k with rfl | hk0
        · have hc : GrantP.codeV L 0 = 0 := by unfold GrantP.codeV; rw [hd, if_neg h1, if_neg (by omega)]
          have hn0 := hnx hc
          repeat' (first | refine zt ?_ | (refine isR ?_; first | refine zo ?_ | refine zA ?_ | refine zL ?_ | refine zc1 ?_ | refine zc2 ?_ | refine zc3 ?_ | refine zI ?_ | (refine zs1 ?_ ?_ <;> intro hc) | (refine zs2 ?_ ?_ <;> intro hc) | (refine zs3 ?_ ?_ <;> intro hc)) | refine awp_split rfl (fun hb => ?_) (fun hb => ?_) | refine zr ?_ | exact x_le)
          exact ⟨⟨by omega, hn0⟩, hk2, (by exact x_le)⟩
        · have hk1 : ((k : Int) - 1) = ((k - 1 : Nat) : Int) := by omega
          have hx' : L[k - 1]? = some (L[k - 1]'(by omega)) := by simp [show k - 1 < L.length by omega]
          have hd' := getD_at hx'
          generalize L[k - 1]'(by omega) = y at *
          have hm' := at_map (f := V.int .i64) hx'
          by_cases h4 : x ≤ y
          · have hc : GrantP.codeV L k = 4 := by unfold GrantP.codeV; rw [hd, hd', if_neg h1, if_pos ⟨hk0, h4⟩]
            rw [hst (by rw [hc]; decide) hk2, hc]
            repeat' (first | refine zt ?_ | (refine isR ?_; first | refine zo ?_ | refine zA ?_ | refine zL ?_ | refine zc1 ?_ | refine zc2 ?_ | refine zc3 ?_ | refine zI ?_ | (refine zs1 ?_ ?_ <;> intro hc) | (refine zs2 ?_ ?_ <;> intro hc) | (refine zs3 ?_ ?_ <;> intro hc)) | refine awp_split rfl (fun hb => ?_) (fun hb => ?_) | refine zr ?_ | exact x_le)
            all_goals first | rfl | (exfalso; omega)
          · have hc : GrantP.codeV L k = 0 := by unfold GrantP.codeV; rw [hd, hd', if_neg h1, if_neg (fun h => h4 h.2)]
            have hn0 := hnx hc
            repeat' (first | refine zt ?_ | (refine isR ?_; first | refine zo ?_ | refine zA ?_ | refine zL ?_ | refine zc1 ?_ | refine zc2 ?_ | refine zc3 ?_ | refine zI ?_ | (refine zs1 ?_ ?_ <;> intro hc) | (refine zs2 ?_ ?_ <;> intro hc) | (refine zs3 ?_ ?_ <;> intro hc)) | refine awp_split rfl (fun hb => ?_) (fun hb => ?_) | refine zr ?_ | exact x_le)
            exact ⟨⟨by omega, hn0⟩, hk2, (by exact x_le)⟩
    · obtain rfl : k = L.length := by omega
      rw [hs]
      repeat' (first | refine zt ?_ | (refine isR ?_; first | refine zo ?_ | refine zA ?_ | refine zL ?_ | refine zc1 ?_ | refine zc2 ?_ | refine zc3 ?_ | refine zI ?_ | (refine zs1 ?_ ?_ <;> intro hc) | (refine zs2 ?_ ?_ <;> intro hc) | (refine zs3 ?_ ?_ <;> intro hc)) | refine awp_split rfl (fun hb => ?_) (fun hb => ?_) | refine zr ?_ | exact x_le)
      all_goals first | rfl | (exfalso; omega)
/-- No consent: the nil one, and the empty one. -/
abbrev noC : V := .agg [.int .i64 0, .bool false, .bool false, .bool false, .bool false, .bool false, .bool false, .bool false, .bool false, .bool false, .bool false, .nils]
end Go.Proofs.YtepnalbefjicgaaGreatDoor.ConC
end

section
namespace Go.Proofs.YtepnalbefjicgaaGreatDoor.JarB
open Go.RowKit Mem Abs Scan JarP JarQ JarA

abbrev TC : Nat := 26
abbrev nV (n : Nat) : Abs.V := .int .i64 (n : Int)
theorem at_map {α : Type} {f : α → Abs.V} {L : List α} {k : Nat} {x : α} (h : L[k]? = some x) : (L.map f)[k]? = some (f x) := by rw [List.getElem?_map, h]; rfl
def perJ (L : List Cookie) (c : Cookie) (k : Nat) : Nat := (L.take k).countP fun d => decide (d.domain = c.domain)
theorem per_le (L : List Cookie) (c : Cookie) (k : Nat) : perJ L c k ≤ k := Nat.le_trans List.countP_le_length (by rw [List.length_take]; omega)
theorem code_at {L : List Cookie} {nx : Int} {i : Nat} {c : Cookie} (hc : L[i]? = some c) : codeJ L nx i = if badM c = true then 3 else if c.no < 0 ∨ nx ≤ c.no then 4
    else if (L.take i).any (fun d => sameK d c || decide (d.no = c.no)) = true then 6
    else if perJ L c i = 4 then 2 else 0 := by
  unfold codeJ
  rw [hc]
  rfl
end Go.Proofs.YtepnalbefjicgaaGreatDoor.JarB
end

section
namespace Go.Proofs.YtepnalbefjicgaaGreatDoor.JarC
open Go.RowKit Mem Abs Scan JarP JarQ JarA JarB

def minI (o : Option Nat) : Int := match o with
  | none => -1
  | some a => (a : Int)
def ofP (d : List UInt8) (all : Bool) (c : Cookie) : Bool := all || decide (c.domain = d)
end Go.Proofs.YtepnalbefjicgaaGreatDoor.JarC
end

section
namespace Go.Proofs.YtepnalbefjicgaaGreatDoor.Abs
open Go.RowKit Mem Facts
section
variable {P : Program} {N : Env} {M : Nat → Prop} {o : Oper} {s : S} {a : Act} {x y : Operand} {w : World}
theorem law_min {t t' : TypeId} {m n q : Int} (ho : o.op = .call { callee := .builtin .min, args := #[x, y], argTypes := #[t, t'] }) (h : (if n < m then n else m) = q) (hq : InR .i64 q) : OpLaw P N o ⟨[(x, .int .i64 m), (y, .int .i64 n)], []⟩ (.int .i64 q) [] [] := law_pure fun s M A φ ac w hh hr => by
  refine ⟨.int .i64 q, ?_, .fz (.int hq)⟩
  unfold execOp
  simp only [ho, resolve, Sem.run_bind, Sem.run_pure, Result.andThen_ok, invoke, builtin, List.map_toArray, List.map_cons, List.map_nil, hr.int hh.a, hr.int hh.b]
  subst h
  simp [Builtin.min_, Builtin.min2]
end
section
variable {P : Program} {N : Env} {l r : List Oper} {o : Oper} {tm : List (Nat × V)} {st : List (Nat × Option Blk)} {nx nt : Nat} {tr : List Tr} {K : S → List Tr → Prop} {d : Nat} {t t' : TypeId} {x y : Operand} {a b : Int}
theorem x_min (q : Int) (k : ARun P N l K r ⟨(d, .int .i64 q) :: tm, st, nx, nt⟩ (tr ++ [trOf l o ⟨[(x, .int .i64 a), (y, .int .i64 b)], []⟩ []])) (ho : o.op = .call { callee := .builtin .min, args := #[x, y], argTypes := #[t, t'] } := by rfl) (hx : S.ev ⟨tm, st, nx, nt⟩ x = some (.int .i64 a) := by rfl) (hy : S.ev ⟨tm, st, nx, nt⟩ y = some (.int .i64 b) := by rfl) (hg : guardV l o ⟨tm, st, nx, nt⟩ = some true := by rfl) (hd : o.dst = some d := by rfl) (hlt : Nat.blt d nt = true := by rfl) (h : (if b < a then b else a) = q := by first | assumption | omega) (hq : -9223372036854775808 ≤ q ∧ q ≤ 9223372036854775807 := by omega) : ARun P N l K (o :: r) ⟨tm, st, nx, nt⟩ tr := r_val hg hd hlt (law_min ho h ⟨by simp only [rng]; omega, by simp only [rng]; omega⟩) (hT hx (hT hy h0)) k
end
end Go.Proofs.YtepnalbefjicgaaGreatDoor.Abs
end
