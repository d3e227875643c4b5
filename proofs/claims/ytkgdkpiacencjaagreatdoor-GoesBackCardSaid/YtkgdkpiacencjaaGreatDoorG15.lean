/- Texts of the proof, joined: SufP, HeadP, PathW, PathL, CookP, Glob, BothS, HostB. -/
import Derived.Test.YtkgdkpiacencjaaGreatDoorG9
import Derived.Test.YtkgdkpiacencjaaGreatDoorG7
import Derived.Test.YtkgdkpiacencjaaGreatDoorG11
import Derived.Test.YtkgdkpiacencjaaGreatDoorG10
import Derived.WalkKit
import Derived.WalkLawsBesides
import Derived.WalkSpells
import Derived.Lib.Hide
import Derived.Deep.QuietTactic
import Derived.BigQuiet
import Derived.Outline
import Derived.RowKit3
import Derived.Test.YtkgdkpiacencjaaGreatDoorG14
import Derived.Lib.LaidTab
import Derived.Lib.ItoaLen
import Derived.Lib.AppendIntMem
import Derived.Test.YtkgdkpiacencjaaGreatDoorG13
section
namespace Go.Proofs.YtkgdkpiacencjaaGreatDoor.SufP
open HostP WordP WordS Abs
deriving instance DecidableEq for Suffix

theorem find_idx {α : Type} {p : α → Bool} : ∀ {xs : List α} {b : α}, xs.find? p = some b ↔ ∃ i : Nat, xs[i]? = some b ∧ p b = true ∧ ∀ (j : Nat) c, j < i → xs[j]? = some c → p c = false
  | [], b => by simp
  | x :: xs, b => by
    rw [List.find?_cons]
    cases h : p x with
    | true =>
      constructor
      · intro e; cases e
        exact ⟨0, rfl, h, fun j c hj => by omega⟩
      · rintro ⟨i, h1, h2, h3⟩
        rcases i with _ | i
        · exact h1
        · have := h3 0 x (by omega) rfl
          rw [h] at this; cases this
    | false =>
      show List.find? p xs = some b ↔ _
      rw [find_idx (xs := xs)]
      constructor
      · rintro ⟨i, h1, h2, h3⟩
        refine ⟨i + 1, by simpa using h1, h2, fun j c hj hc => ?_⟩
        rcases j with _ | j
        · simp at hc; subst hc; exact h
        · exact h3 j c (by omega) (by simpa using hc)
      · rintro ⟨i, h1, h2, h3⟩
        rcases i with _ | i
        · simp at h1; subst h1; rw [h] at h2; cases h2
        · exact ⟨i, by simpa using h1, h2, fun j c hj hc => h3 (j + 1) c (by omega) (by simpa using hc)⟩
theorem find_no {α : Type} {p : α → Bool} {xs : List α} : xs.find? p = none ↔ ∀ (j : Nat) c, xs[j]? = some c → p c = false := by
  rw [List.find?_eq_none]
  constructor
  · intro h j c hc
    simpa using h c (List.mem_of_getElem? hc)
  · intro h c hc
    obtain ⟨j, hj⟩ := List.mem_iff_getElem?.1 hc
    simpa using h j c hj
theorem find_on {α : Type} {p : α → Bool} {xs : List α} {k : Nat} {d : α} (h : xs[k]? = some d) : (xs.take (k + 1)).find? p = ((xs.take k).find? p).or (if p d then some d else none) := by
  obtain ⟨hk, rfl⟩ := List.getElem?_eq_some_iff.1 h
  rw [List.take_succ_eq_append_getElem hk, List.find?_append]
  congr 1
  rw [List.find?_cons]
  cases p xs[k] <;> rfl

/-! ### What is above -/
def up : List UInt8 → List UInt8
  | [] => []
  | c :: r => if c = 46 then r else up r
theorem up_none {l : List UInt8} (h : l.contains 46 = false) : up l = [] := by
  induction l with
  | nil => rfl
  | cons c r ih =>
    simp only [List.contains_cons, Bool.or_eq_false_iff, beq_eq_false_iff_ne] at h
    unfold up
    rw [if_neg (fun e => h.1 e.symm), ih h.2]
theorem up_at {a r : List UInt8} (h : a.contains 46 = false) : up (a ++ 46 :: r) = r := by
  induction a with
  | nil => simp [up]
  | cons c a ih =>
    simp only [List.contains_cons, Bool.or_eq_false_iff, beq_eq_false_iff_ne] at h
    rw [List.cons_append, up, if_neg (fun e => h.1 e.symm), ih h.2]
theorem after_up (l : List UInt8) : after l = if l.contains 46 then up l :: after (up l) else [] := by
  rcases first_at 46 l with h | ⟨a, r, rfl, h⟩
  · rw [h, after_none l h]; rfl
  · rw [after_at a r h, up_at h, if_pos (by simp)]
theorem up_len (l : List UInt8) : (up l).length ≤ l.length := by
  induction l with
  | nil => exact Nat.le_refl _
  | cons c r ih => unfold up; split <;> simp <;> omega
theorem up_lt {l : List UInt8} (h : l ≠ []) : (up l).length < l.length := by
  cases l with
  | nil => exact absurd rfl h
  | cons c r =>
    have := up_len r
    unfold up; split <;> simp <;> omega
def ch (l : List UInt8) : List (List UInt8) := l :: after l
theorem ch_eq (l : List UInt8) : ch l = l :: if l.contains 46 then ch (up l) else [] := by
  unfold ch
  rw [after_up l]
theorem ch_next : ∀ (k : Nat) (l u : List UInt8), (ch l)[k]? = some u → (ch l)[k + 1]? = if u.contains 46 then some (up u) else none
  | 0, l, u, h => by
    rw [ch_eq l] at h ⊢
    simp at h; subst h
    simp only [List.getElem?_cons_succ]
    cases l.contains 46 <;> simp [ch]
  | k + 1, l, u, h => by
    rw [ch_eq l] at h ⊢
    simp only [List.getElem?_cons_succ] at h ⊢
    cases hc : l.contains 46 with
    | false => rw [hc] at h; simp at h
    | true =>
      rw [hc] at h
      simpa using ch_next k (up l) u (by simpa using h)
theorem contains_ne {l : List UInt8} (h : l.contains 46 = true) : l ≠ [] := fun e => by subst e; simp at h
theorem ch_short {l : List UInt8} {i : Nat} : ∀ {j : Nat} {u v : List UInt8}, i < j → (ch l)[i]? = some u → (ch l)[j]? = some v → v.length < u.length
  | 0, _, _, h, _, _ => by omega
  | j + 1, u, v, h, h1, h2 => by
    have hj : j < (ch l).length := by have := (List.getElem?_eq_some_iff.1 h2).1; omega
    obtain ⟨x, hx⟩ : ∃ x, (ch l)[j]? = some x := ⟨_, List.getElem?_eq_getElem hj⟩
    have h3 := ch_next j l x hx
    rw [h2] at h3
    split at h3
    · rename_i hc
      cases h3
      have := up_lt (contains_ne hc)
      rcases Nat.lt_or_ge i j with g | g
      · have := ch_short g h1 hx; omega
      · have : i = j := by omega
        subst this
        rw [h1] at hx; cases hx; omega
    · cases h3
theorem ups_ch {h : List UInt8} (h0 : h ≠ []) (ha : address h = false) : upsF h = ch h := by unfold upsF ch; rw [if_neg h0, ha]; rfl
/-! ### Hosts -/
def hostOk (l : List UInt8) : Bool := decide (canonF l = (l, 0))
structure Hst (l : List UInt8) : Prop where
  fold : fold l = l
  len : l.length ≤ 253
  lab : (split 46 l).all label = true
theorem host_iff (l : List UInt8) : hostOk l = true ↔ Hst l := by
  unfold hostOk
  rw [decide_eq_true_eq]
  constructor
  · intro e
    obtain ⟨h1, h2, h3⟩ := canon_ok e
    exact ⟨h1.symm, h2, by rw [← h1] at h3; exact h3⟩
  · intro ⟨h1, h2, h3⟩
    unfold canonF
    rw [if_neg (by omega), h1, if_pos h3]
theorem Hst.ne {l : List UInt8} (h : Hst l) : l ≠ [] := fun e => by
  have := h.lab
  rw [e] at this
  simp [split, label] at this
theorem Hst.part {x u : List UInt8} (h : Hst (x ++ 46 :: u)) : Hst u := by
  obtain ⟨h1, h2, h3⟩ := h
  refine ⟨?_, by simp at h2; omega, ?_⟩
  · rw [fold_app, show WordP.fold (46 :: u) = foldB 46 :: WordP.fold u from rfl] at h1
    have hl : (WordP.fold x).length = x.length := by simp [WordP.fold]
    have := (List.append_inj h1 hl).2
    exact (List.cons.injEq _ _ _ _ ▸ this).2
  · rw [split_mid, List.all_append, Bool.and_eq_true] at h3
    exact h3.2
theorem Hst.mem {l u : List UInt8} (h : Hst l) (hu : u ∈ ch l) : Hst u := by
  unfold ch at hu
  rcases List.mem_cons.1 hu with rfl | hu
  · exact h
  · obtain ⟨x, rfl⟩ := (mem_after u l).1 hu
    exact h.part
theorem Hst.dot {l : List UInt8} (h : Hst l) : (up l = []) ↔ l.contains 46 = false := by
  rcases first_at 46 l with hc | ⟨a, r, rfl, hc⟩
  · exact ⟨fun _ => hc, fun _ => up_none hc⟩
  · rw [up_at hc]
    have := h.part.ne
    exact ⟨fun e => absurd e this, fun e => by simp at e⟩
/-! ### Rules -/
def bad1 (r : Suffix) : Nat := if r.kind < 1 ∨ 3 < r.kind then 7 else if hostOk r.name = false ∨ address r.name = true ∨ (r.kind = 3 ∧ up r.name = []) then 1 else 0
def checkG (seen : List Suffix) : List Suffix → Nat
  | [] => 0
  | r :: rest => if bad1 r ≠ 0 then bad1 r else if r ∈ seen then 6 else checkG (seen ++ [r]) rest
def checkF (L : List Suffix) : Nat := if 16 < L.length then 2 else checkG [] L
structure Rules (L : List Suffix) : Prop where
  ok : ∀ r ∈ L, bad1 r = 0
  once : ∀ (i : Nat) r, L[i]? = some r → r ∉ L.take i
theorem checkG_ok : ∀ {L seen : List Suffix}, checkG seen L = 0 → ∀ (i : Nat) r, L[i]? = some r → bad1 r = 0 ∧ r ∉ seen ++ L.take i
  | [], _, _, i, r, h => by simp at h
  | x :: L, seen, e, i, r, h => by
    unfold checkG at e
    split at e
    · rename_i hb; exact absurd e hb
    · rename_i hb
      split at e
      · cases e
      · rename_i hs
        rcases i with _ | i
        · simp at h; subst h
          exact ⟨by omega, by simpa using hs⟩
        · obtain ⟨h1, h2⟩ := checkG_ok e i r (by simpa using h)
          exact ⟨h1, by simpa using h2⟩
theorem check_rules {L : List Suffix} (h : checkF L = 0) : Rules L ∧ L.length ≤ 16 := by
  unfold checkF at h
  split at h
  · cases h
  · refine ⟨⟨fun r hr => ?_, fun i r hi => ?_⟩, by omega⟩
    · obtain ⟨i, hi⟩ := List.mem_iff_getElem?.1 hr
      exact (checkG_ok h i r hi).1
    · have := (checkG_ok h i r hi).2
      simpa using this
theorem bad_ok {r : Suffix} (h : bad1 r = 0) : 1 ≤ r.kind ∧ r.kind ≤ 3 ∧ Hst r.name ∧ address r.name = false ∧ (r.kind = 3 → up r.name ≠ []) := by
  unfold bad1 at h
  split at h
  · cases h
  · rename_i h1
    split at h
    · cases h
    · rename_i h2
      refine ⟨by omega, by omega, (host_iff _).1 ?_, ?_, fun h3 h4 => h2 (.inr (.inr ⟨h3, h4⟩))⟩
      · cases hh : hostOk r.name with
        | true => rfl
        | false => exact absurd (.inl hh) h2
      · cases hh : address r.name with
        | false => rfl
        | true => exact absurd (.inr (.inl hh)) h2
def rIn (L : List Suffix) (kd : Int) (d : List UInt8) : Bool := decide ((⟨kd, d⟩ : Suffix) ∈ L)
def bIn (L : List Suffix) (d : List UInt8) : Bool := rIn L 1 d || rIn L 2 (up d)
def pubF (L : List Suffix) (h : List UInt8) : List UInt8 := if address h then [] else match (ch h).find? (rIn L 3) with
  | some d => up d
  | none => match (ch h).find? (bIn L) with
    | some d => d
    | none => ((ch h).getLast?).getD h
def pubNo (L : List Suffix) (h : List UInt8) : List UInt8 × Nat := if checkF L ≠ 0 then ([], checkF L) else if hostOk h then (pubF L h, 0) else ([], 1)
def owner (L : List Suffix) (h : List UInt8) : List UInt8 := ((ch h).find? fun u => up u == pubF L h).getD []
def ownF (L : List Suffix) (h : List UInt8) : List UInt8 × Nat := if (pubNo L h).2 ≠ 0 then ([], (pubNo L h).2) else if address h then (h, 0) else if pubF L h = h then ([], 5) else (owner L h, 0)
/-- Where the public suffix stands. -/
inductive PubAt (L : List Suffix) (h p : List UInt8) (m : Nat) : Prop
  | exc (k : Nat) (d : List UInt8) (hm : m = k + 1) (hd : (ch h)[k]? = some d) (hr : rIn L 3 d = true) (hf : ∀ (j : Nat) c, j < k → (ch h)[j]? = some c → rIn L 3 c = false)
  | bst (hn : ∀ (j : Nat) c, (ch h)[j]? = some c → rIn L 3 c = false) (hr : bIn L p = true) (hf : ∀ (j : Nat) c, j < m → (ch h)[j]? = some c → bIn L c = false)
  | lst (hn : ∀ (j : Nat) c, (ch h)[j]? = some c → rIn L 3 c = false) (hf : ∀ (j : Nat) c, (ch h)[j]? = some c → bIn L c = false) (hm : m + 1 = (ch h).length)
/-! ### The laws -/
end Go.Proofs.YtkgdkpiacencjaaGreatDoor.SufP
end

section
namespace Go.Proofs.YtkgdkpiacencjaaGreatDoor.HeadP
open Abs TreeW WordP WordS

def badI (c : Int) : Bool := (decide (c < 32) && !decide (c = 9)) || decide (c = 127)
def badB (b : UInt8) : Bool := badI (b.toNat : Int)
def letF (s : List UInt8) : Bool := s.all fun b => !badB b
/-- A part's name and value, and whether it has both. -/
def pairF (p : List UInt8) : List UInt8 × List UInt8 × Bool := (trim (cutF 61 p).1, trim (cutF 61 p).2.1, (cutF 61 p).2.2)
def attrF (p : List UInt8) : Option Attr := if fold (pairF p).1 = [] then none else some ⟨fold (pairF p).1, (pairF p).2.1⟩
def raw0 : Raw := ⟨[], [], []⟩
def rawF (s : List UInt8) : Raw × Int :=
  if 400 < s.length then (raw0, 2) else if letF s = false then (raw0, 1) else
  match split 59 s with
  | [] => (raw0, 1)
  | p :: r => if (pairF p).2.2 = false ∨ (pairF p).1 = [] then (raw0, 1) else if 12 < (r.filterMap attrF).length then (raw0, 2) else (⟨(pairF p).1, (pairF p).2.1, r.filterMap attrF⟩, 0)
def plainF (s : List UInt8) : Bool := decide (trim s = s) && (letF s && !s.contains 59)
def namedF (s : List UInt8) : Bool := !decide (s = []) && (plainF s && !s.contains 61)
def okA (a : Attr) : Bool := namedF a.name && (decide (fold a.name = a.name) && plainF a.value)
def checkF (r : Raw) : Int := if namedF r.name && (plainF r.value && r.attrs.all okA) then (if 12 < r.attrs.length then 2 else 0) else 1
def attrT (a : Attr) : List UInt8 := 59 :: 32 :: a.name ++ (if a.value = [] then [] else 61 :: a.value)
def textF (r : Raw) : List UInt8 := r.name ++ 61 :: r.value ++ r.attrs.flatMap attrT
def writeF (r : Raw) : List UInt8 × Int := if checkF r = 0 then (if 400 < (textF r).length then ([], 2) else (textF r, 0)) else ([], checkF r)
end Go.Proofs.YtkgdkpiacencjaaGreatDoor.HeadP
end

section
namespace Go.Proofs.YtkgdkpiacencjaaGreatDoor.PathW
open Go.RowKit

theorem ret_str {a b : List UInt8} (h : a = b) : Ending.returned (.string ⟨a.toArray⟩) = .returned (.string ⟨b.toArray⟩) := by rw [h]
theorem ret_strb {a : ByteArray} {b : List UInt8} (h : a.data.toList = b) : Ending.returned (.string a) = .returned (.string ⟨b.toArray⟩) := by subst h; rfl
theorem if_ff {α : Type} {b : Bool} {x y : α} (h : b = false) : (if b = true then x else y) = y := by rw [h]; rfl

theorem last_any (s : ByteArray) (w : World) (hs : s.size ≤ 9223372036854775807) :
    Calls Tryz.prog 69 #[.string s, .int .u8 47] w fun e w' => e = .returned (.int .i64 (Lib.Pa.lastIndexByte s.data.toList 47)) ∧ w' = w := by
  go_enter Tryz.func69, Tryz.ntmps69
  go_wp2_with fail
  refine (Tryz.bytealg_LastIndexByteString s 47 _ hs).mono ?_
  rintro e w' ⟨rfl, rfl⟩
  go_wp2
  go_ret
  exact ⟨rfl, rfl⟩

def dflt (l : List UInt8) : List UInt8 := if Lib.Pa.lastIndexByte l 47 ≤ 0 ∨ l.head? ≠ some 47 then [47] else l.take (Lib.Pa.lastIndexByte l 47).toNat

theorem head_eq (s : ByteArray) (h : 0 < s.size) : s.data.toList.head? = some (s[0]'h) := by
  rw [List.head?_eq_getElem?]; exact Lib.Pa.at_eq s 0 h

set_option maxHeartbeats 400000 in
theorem default_any (s : ByteArray) (w : World) (hs : s.size ≤ 9223372036854775807) :
    Calls Tryz.prog 29 #[.string s] w fun e w' => e = .returned (.string ⟨(dflt s.data.toList).toArray⟩) ∧ w' = w := by
  have hb := Lib.Pa.lastIndexByte_bounds s.data.toList 47
  rw [← Lib.size_eq] at hb
  by_cases h : Lib.Pa.lastIndexByte s.data.toList 47 ≤ 0
  · have hd : dflt s.data.toList = [47] := if_pos (.inl h)
    have H := Lib.hid hd; clear hd
    go_enter Tryz.func29, Tryz.ntmps29
    go_wp2_with (go_at_call 69; refine (last_any _ _ hs).mono ?_; rintro e w' ⟨rfl, rfl⟩)
    go_ret
    exact ⟨ret_str H.out.symm, rfl⟩
  · have h0 : 0 < s.size := by omega
    by_cases h1 : s[0] = 47
    · have hd : dflt s.data.toList = s.data.toList.take (Lib.Pa.lastIndexByte s.data.toList 47).toNat := if_neg (by rw [head_eq s h0, h1]; simp; omega)
      have H := Lib.hid hd; clear hd
      have H1 := Lib.hid h1; clear h1
      have hb1 : ((s[0].toNat : Int) != 47) = false := by rw [H1.out]; rfl
      go_enter Tryz.func29, Tryz.ntmps29
      go_wp2_with (go_at_call 69; refine (last_any _ _ hs).mono ?_; rintro e w' ⟨rfl, rfl⟩)
      go_ret
      exact ⟨ret_strb (by rw [H.out, Lib.extract_data]; simp), rfl⟩
    · have hd : dflt s.data.toList = [47] := if_pos (.inr (by rw [head_eq s h0]; simpa using h1))
      have H := Lib.hid hd; clear hd
      have hb1 : ((s[0].toNat : Int) != 47) = true := by rw [Lib.Pa.bne47]; simpa using h1
      go_enter Tryz.func29, Tryz.ntmps29
      go_wp2_with (go_at_call 69; refine (last_any _ _ hs).mono ?_; rintro e w' ⟨rfl, rfl⟩)
      go_ret
      exact ⟨ret_str H.out.symm, rfl⟩

def mtch (p o : List UInt8) : Bool := Lib.hasPrefix p o && (p.length == o.length || (Lib.hasSuffix o [47] || p[o.length]? == some 47))

/-! DefaultOf -/
def cnt (l : List UInt8) : Nat := (l.filter (· == 47)).length
def lst (l : List UInt8) : Nat := (Lib.Pa.lastIndexByte l 47).toNat
theorem cnt_snoc (l : List UInt8) (c : UInt8) : cnt (l ++ [c]) = cnt l + if (c.toNat : Int) == 47 then 1 else 0 := by
  unfold cnt; rw [List.filter_append, List.length_append, Lib.Pa.beq47, List.filter_cons]
  cases h : c == 47 <;> rfl
theorem last_snoc (l : List UInt8) (c : UInt8) : Lib.Pa.lastIndexByte (l ++ [c]) 47 = if (c.toNat : Int) == 47 then (l.length : Int) else Lib.Pa.lastIndexByte l 47 := by
  rw [Lib.Pa.beq47]
  unfold Lib.Pa.lastIndexByte
  have hk : ∀ k, k ≤ l.length → Lib.Pa.lastIdx (l ++ [c]) 47 k = Lib.Pa.lastIdx l 47 k := by
    intro k; induction k with
    | zero => intro _; rfl
    | succ k ih => intro h; unfold Lib.Pa.lastIdx; rw [List.getElem?_append_left (by omega), ih (by omega)]
  rw [List.length_append]
  show Lib.Pa.lastIdx (l ++ [c]) 47 (l.length + 1) = _
  rw [Lib.Pa.lastIdx, List.getElem?_concat_length, hk _ (Nat.le_refl _)]
  by_cases h : c = 47
  · rw [if_pos (by rw [h]), if_pos (by simpa using h)]
  · rw [if_neg (by simpa using h), if_neg (by simpa using h)]
theorem cnt_pos (l : List UInt8) (h : l.head? = some 47) : (cnt l = 1 ↔ Lib.Pa.lastIndexByte l 47 ≤ 0) := by
  obtain ⟨a, rfl⟩ : ∃ a, l = 47 :: a := by cases l with | nil => cases h | cons x a => injection h with h; subst h; exact ⟨a, rfl⟩
  have hc : cnt (47 :: a) = 1 + cnt a := by unfold cnt; rw [List.filter_cons]; exact Nat.add_comm _ _
  rw [hc]
  have h0 : cnt a = 0 ↔ ∀ x ∈ a, x ≠ 47 := by
    unfold cnt; rw [List.length_eq_zero_iff, List.filter_eq_nil_iff]; simp
  rcases Lib.Pa.lastIndexByte_spec (47 :: a) 47 with ⟨h1, h2⟩ | ⟨i, h1, h2, h3⟩
  · exact absurd rfl (h2 0)
  · rw [h1]
    constructor
    · intro hh
      have hz : cnt a = 0 := by omega
      cases i with
      | zero => simp
      | succ i =>
        rw [List.getElem?_cons_succ] at h2
        exact absurd rfl (h0.1 hz 47 (List.mem_of_getElem? h2))
    · intro hh
      have hi : i = 0 := by omega
      subst hi
      have : cnt a = 0 := h0.2 fun x hx hx' => by
        subst hx'
        obtain ⟨j, hj, hj'⟩ := List.getElem_of_mem hx
        exact h3 (j + 1) (by omega) (by rw [List.getElem?_cons_succ, List.getElem?_eq_getElem hj, hj'])
      omega

theorem take_snoc (s : ByteArray) (k : Nat) (h : k < s.size) : s.data.toList.take (k + 1) = s.data.toList.take k ++ [s[k]] := by
  rw [List.take_succ_eq_append_getElem (by simpa using h)]; rfl

theorem lst_snoc (l : List UInt8) (c : UInt8) : lst (l ++ [c]) = if (c.toNat : Int) == 47 then l.length else lst l := by
  unfold lst; rw [last_snoc]; split <;> simp

set_option maxHeartbeats 400000 in
theorem defaultOf_any (s : ByteArray) (w : World) (hs : s.size ≤ 9223372036854775807) :
    Calls Tryz.prog 36 #[.string s] w fun e w' => e = .returned (.string ⟨(dflt s.data.toList).toArray⟩) ∧ w' = w := by
  go_enter Tryz.func36, Tryz.ntmps36
  go_wp2
  go_loop [3, 4, 5] (fun m t i => ∃ k : Nat, k ≤ s.size ∧ i = .int .i64 k ∧ m = .int .i64 (cnt (s.data.toList.take k)) ∧ t = .int .i64 (lst (s.data.toList.take k))) (fun _ _ i => s.size - (intOf i).toNat)
  case atStart => exact ⟨0, Nat.zero_le _, rfl, rfl, rfl⟩
  case round =>
    obtain ⟨k, hk, rfl, rfl, rfl⟩ := hrel
    have hl : (s.data.toList.take k).length ≤ k := List.length_take_le _ _
    have hcl : cnt (s.data.toList.take k) ≤ k := Nat.le_trans (List.length_filter_le _ _) hl
    have hb := Lib.Pa.lastIndexByte_bounds (s.data.toList.take k) 47
    have hll : lst (s.data.toList.take k) ≤ k := by unfold lst; omega
    by_cases hlt : k < s.size
    · have hc := cnt_snoc (s.data.toList.take k) s[k]
      have hz := lst_snoc (s.data.toList.take k) s[k]
      rw [← take_snoc s k hlt] at hc hz
      rw [List.length_take_of_le (by simp; omega)] at hz
      have HC := Lib.hid hc; have HZ := Lib.hid hz; clear hc hz hb
      go_wp2
      all_goals
        go_round
        case rel => exact ⟨k + 1, by omega, by go_num, by rw [HC.out]; first | (rw [if_pos ‹_›]; go_num) | (rw [if_ff ‹_›]; go_num), by rw [HZ.out]; first | rw [if_pos ‹_›] | rw [if_ff ‹_›]⟩
        case measure => simp [intOf]; omega
    · obtain rfl : k = s.size := by omega
      rw [List.take_of_length_le (by simp)] at hcl hll ⊢
      clear hl hb hlt hk
      by_cases h0 : 0 < s.size
      · have hz : ((s.size : Int) == 0) = false := beq_eq_false_iff_ne.2 (by omega)
        by_cases h1 : s[0] = 47
        · have hb1 : ((s[0].toNat : Int) != 47) = false := by rw [h1]; rfl
          have hc := cnt_pos s.data.toList (by rw [head_eq s h0, h1])
          clear h1
          by_cases hm : cnt s.data.toList = 1
          · have hc1 : ((cnt s.data.toList : Int) == 1) = true := by rw [hm]; rfl
            have hd : dflt s.data.toList = [47] := if_pos (.inl (hc.1 hm))
            have H := Lib.hid hd; clear hd hc hm
            go_wp2
            go_ret
            exact ⟨ret_str H.out.symm, rfl⟩
          · have hc1 : ((cnt s.data.toList : Int) == 1) = false := by simp; omega
            have hd : dflt s.data.toList = s.data.toList.take (lst s.data.toList) := if_neg (by rw [head_eq s h0, ← hc]; have := Lib.Pa.bne47 s[0]; rw [hb1] at this; simp at this; simp [hm, ← this])
            have H := Lib.hid hd; clear hd hc hm
            go_wp2
            go_ret
            exact ⟨ret_strb (by rw [H.out, Lib.extract_data]; simp), rfl⟩
        · have hb1 : ((s[0].toNat : Int) != 47) = true := by rw [Lib.Pa.bne47]; simpa using h1
          have hd : dflt s.data.toList = [47] := if_pos (.inr (by rw [head_eq s h0]; simpa using h1))
          have H := Lib.hid hd; clear hd h1
          go_wp2
          go_ret
          exact ⟨ret_str H.out.symm, rfl⟩
      · have hz : ((s.size : Int) == 0) = true := beq_iff_eq.2 (by omega)
        have hd : dflt s.data.toList = [47] := if_pos (.inr (by rw [Lib.Pa.nil_of_size s h0]; simp))
        have H := Lib.hid hd; clear hd h0
        go_wp2
        go_ret
        exact ⟨ret_str H.out.symm, rfl⟩

/-! What is in any case. -/
end Go.Proofs.YtkgdkpiacencjaaGreatDoor.PathW
end

section
namespace Go.Proofs.YtkgdkpiacencjaaGreatDoor.PathL
open Go.RowKit PathW

theorem dflt_le (p : List UInt8) : (dflt p).length ≤ p.length + 1 := by
  unfold dflt; split
  · simp
  · rw [List.length_take]; omega

def s_is47 (p : ByteArray) (h : 0 < p.size) : Bool := !((p[0].toNat : Int) != 47)
end Go.Proofs.YtkgdkpiacencjaaGreatDoor.PathL
end

section
namespace Go.Proofs.YtkgdkpiacencjaaGreatDoor.CookP
open Abs TreeW WordP WordS HostP PathT StampG ClockP ClockW ClockO ClockV

def ageM : Nat := 1000000000000
def satF (l : List UInt8) : Nat := min ageM (value l)
theorem sat_nil : satF [] = 0 := by decide
theorem sat_snoc (l : List UInt8) (c : UInt8) : satF (l ++ [c]) = min ageM (10 * satF l + (c.toNat - 48)) := by
  unfold satF
  rw [HostO.value_snoc]
  have : ageM = 1000000000000 := rfl
  omega
theorem sat_le (l : List UInt8) : satF l ≤ 1000000000000 := Nat.min_le_left _ _
/-- A text's age, and whether it is one. -/
def ageF (s : List UInt8) : Int × Bool := if (cutP s [45]).1.all digB = true ∧ (cutP s [45]).1 ≠ [] then (if (cutP s [45]).2 then -(satF (cutP s [45]).1 : Int) else (satF (cutP s [45]).1 : Int), true) else (0, false)
def zeroF : List UInt8 → List UInt8
  | [] => []
  | [c] => [c]
  | c :: d :: r => if c = 48 then zeroF (d :: r) else c :: d :: r
theorem value_go (l : List UInt8) : ∀ n : Nat, l.foldl (fun n c => 10 * n + (c.toNat - 48)) n = n * 10 ^ l.length + value l := by
  induction l with
  | nil => intro n; simp [value]
  | cons c r ih =>
    intro n
    have h0 : value (c :: r) = r.foldl (fun n c => 10 * n + (c.toNat - 48)) (10 * 0 + (c.toNat - 48)) := rfl
    rw [h0, List.foldl_cons, ih, ih, List.length_cons, Nat.pow_succ]
    generalize 10 ^ r.length = p
    generalize value r = v
    generalize c.toNat - 48 = d
    rw [Nat.add_mul, Nat.add_mul, Nat.mul_comm 10 n, Nat.mul_assoc, Nat.mul_comm 10 p]
    omega
theorem value_cons (c : UInt8) (r : List UInt8) : value (c :: r) = (c.toNat - 48) * 10 ^ r.length + value r := by
  have h0 : value (c :: r) = r.foldl (fun n c => 10 * n + (c.toNat - 48)) (10 * 0 + (c.toNat - 48)) := rfl
  rw [h0, value_go, Nat.mul_zero, Nat.zero_add]
theorem zero_is : ∀ (l : List UInt8), value (zeroF l) = value l ∧ (l.all digB = true → (zeroF l).all digB = true) ∧ (l ≠ [] → zeroF l ≠ []) ∧ (zeroF l).length ≤ l.length ∧ (1 < (zeroF l).length → (zeroF l).head? ≠ some 48)
  | [] => ⟨rfl, fun h => h, fun h => h, Nat.le_refl _, fun h => by simp [zeroF] at h⟩
  | [c] => ⟨rfl, fun h => h, fun h => h, Nat.le_refl _, fun h => by simp [zeroF] at h⟩
  | c :: d :: r => by
    unfold zeroF
    by_cases hc : c = 48
    · rw [if_pos hc]
      obtain ⟨h1, h2, h3, h4, h5⟩ := zero_is (d :: r)
      refine ⟨?_, fun h => h2 (by rw [List.all_cons, Bool.and_eq_true] at h; exact h.2), fun _ => h3 (by simp), Nat.le_trans h4 (by simp), h5⟩
      rw [h1, value_cons c (d :: r), hc]
      simp
    · rw [if_neg hc]
      exact ⟨rfl, fun h => h, fun h => h, Nat.le_refl _, fun _ h => hc (by simpa using h)⟩
theorem zero_sat {l : List UInt8} (hd : l.all digB = true) : satF l = if (zeroF l).length ≤ 12 then value (zeroF l) else 1000000000000 := by
  obtain ⟨h1, h2, _, _, h5⟩ := zero_is l
  have h2 := h2 hd
  unfold satF
  rw [← h1]
  have hm : ageM = 10 ^ 12 := rfl
  by_cases hl : (zeroF l).length ≤ 12
  · rw [if_pos hl]
    have h3 := HostO.value_le _ h2
    have h4 : 10 ^ (zeroF l).length ≤ 10 ^ 12 := Nat.pow_le_pow_right (by decide) hl
    omega
  · rw [if_neg hl]
    have h5 := h5 (by omega)
    generalize zeroF l = z at *
    match z with
    | [] => simp at hl
    | c :: r =>
      rw [value_cons]
      have hc : digB c = true := by rw [List.all_cons, Bool.and_eq_true] at h2; exact h2.1
      have hc2 : 1 ≤ c.toNat - 48 := by
        unfold digB at hc
        simp at hc
        have : c.toNat ≠ 48 := fun e => h5 (by simp [← UInt8.toNat_inj, e])
        omega
      have h4 : 10 ^ 12 ≤ 10 ^ r.length := Nat.pow_le_pow_right (by decide) (by simp at hl; omega)
      have h6 : 1 * 10 ^ r.length ≤ (c.toNat - 48) * 10 ^ r.length := Nat.mul_le_mul_right _ hc2
      omega
/-! ### Cookies -/
def readyF (f : From) (now : Int) : Int := if SufP.hostOk f.host = true ∧ pre f.path [47] = true ∧ HeadP.letF f.path = true ∧ f.path.contains 59 = false ∧ f.path.length ≤ 400 then (if isB now then 0 else 3) else 1
theorem ready_ok {f : From} {now : Int} (h : readyF f now = 0) : SufP.hostOk f.host = true ∧ pre f.path [47] = true ∧ HeadP.letF f.path = true ∧ f.path.contains 59 = false ∧ f.path.length ≤ 400 ∧ isB now = true := by
  unfold readyF at h
  split at h
  · rename_i h1
    split at h
    · rename_i h2
      exact ⟨h1.1, h1.2.1, h1.2.2.1, h1.2.2.2.1, h1.2.2.2.2, h2⟩
    · exact absurd h (by decide)
  · exact absurd h (by decide)
def nExp : List UInt8 := ([101, 120, 112, 105, 114, 101, 115] : List UInt8)
def nAge : List UInt8 := ([109, 97, 120, 45, 97, 103, 101] : List UInt8)
def nDom : List UInt8 := ([100, 111, 109, 97, 105, 110] : List UInt8)
def nPath : List UInt8 := ([112, 97, 116, 104] : List UInt8)
def nSec : List UInt8 := ([115, 101, 99, 117, 114, 101] : List UInt8)
def nHttp : List UInt8 := ([104, 116, 116, 112, 111, 110, 108, 121] : List UInt8)
def nSite : List UInt8 := ([115, 97, 109, 101, 115, 105, 116, 101] : List UInt8)
def siteF (v : List UInt8) : Int := if fold v = ([110, 111, 110, 101] : List UInt8) then 1 else if fold v = ([108, 97, 120] : List UInt8) then 2 else if fold v = ([115, 116, 114, 105, 99, 116] : List UInt8) then 3 else 0
/-- A domain without the dot ahead of it. -/
def dotF (v : List UInt8) : List UInt8 := (cutP v [46]).1
structure Mk where
  c : Cookie
  aged : Bool
  told : Bool
  deep : Bool
noncomputable def attrF (f : From) (now : Int) (m : Mk) (a : Attr) : Mk :=
  if a.name = nExp then (if (readF a.value).2 = 0 then { m with c := { m.c with lasting := true, expiry := if m.aged then m.c.expiry else (readF a.value).1 } } else m)
  else if a.name = nAge then (if (ageF a.value).2 = true then { m with aged := true, c := { m.c with lasting := true, expiry := if 0 < (ageF a.value).1 then afterF now (ageF a.value).1 else -11644473600 } } else m)
  else if a.name = nDom then (if dotF a.value = [] then m else { m with told := true, c := { m.c with domain := fold (dotF a.value) } })
  else if a.name = nPath then { m with deep := true, c := { m.c with path := if pre a.value [47] then a.value else PathW.dflt f.path } }
  else if a.name = nSec then { m with c := { m.c with secure := true } }
  else if a.name = nHttp then { m with c := { m.c with httpOnly := true } }
  else if a.name = nSite then { m with c := { m.c with site := siteF a.value } }
  else m
def mk0 (r : Raw) (f : From) (now : Int) : Mk := ⟨⟨r.name, r.value, [], PathW.dflt f.path, false, false, false, false, 0, 253402300799, now, now, 0⟩, false, false, false⟩
def cook0 : Cookie := ⟨[], [], [], [], false, false, false, false, 0, 0, 0, 0, 0⟩
/-- Whose cookie it is: the code, and the cookie then. -/
def ownF (L : List Suffix) (f : From) (m : Mk) : Int × Mk :=
  if m.told = false then (0, { m with c := { m.c with domain := f.host, hostOnly := true } })
  else if SufP.hostOk m.c.domain = false then (1, m)
  else if SufP.pubF L m.c.domain = m.c.domain then (if m.c.domain = f.host then 0 else 8, { m with c := { m.c with hostOnly := true } })
  else (if matchF f.host m.c.domain = true then 0 else 8, m)
def pSec : List UInt8 := ([95, 95, 115, 101, 99, 117, 114, 101, 45] : List UInt8)
def pHost : List UInt8 := ([95, 95, 104, 111, 115, 116, 45] : List UInt8)
def barF (f : From) (m : Mk) : Bool :=
  if (m.c.httpOnly && f.script || m.c.secure && !f.secure) = true then true
  else if pre (fold m.c.name) pSec = true then !m.c.secure
  else if pre (fold m.c.name) pHost = true then !m.c.secure || (!m.c.hostOnly || (m.told || (!decide (m.c.path = [47]) || !m.deep)))
  else false
noncomputable def makerF (r : Raw) (f : From) (now : Int) : Mk := r.attrs.foldl (attrF f now) (mk0 r f now)
noncomputable def endF (L : List Suffix) (f : From) (m : Mk) : Cookie × Int :=
  if (ownF L f m).1 ≠ 0 then (cook0, (ownF L f m).1) else if barF f (ownF L f m).2 = true then (cook0, 8) else ((ownF L f m).2.c, 0)
noncomputable def cookF (L : List Suffix) (r : Raw) (f : From) (now : Int) : Cookie × Int :=
  if SufP.checkF L ≠ 0 then (cook0, (SufP.checkF L : Int)) else if HeadP.checkF r ≠ 0 then (cook0, HeadP.checkF r) else if readyF f now ≠ 0 then (cook0, readyF f now) else endF L f (makerF r f now)
/-! ### The last attribute of a name -/
noncomputable def saysF (a : Attr) : Bool :=
  if a.name = nExp then decide ((readF a.value).2 = 0) else if a.name = nAge then (ageF a.value).2 else if a.name = nDom then decide (a.value ≠ [] ∧ a.value ≠ [46]) else true
noncomputable def lastF (l : List Attr) (n : List UInt8) : Option (List UInt8) := (l.reverse.find? fun a => decide (a.name = n) && saysF a).map (·.value)
theorem last_snoc (l : List Attr) (a : Attr) (n : List UInt8) : lastF (l ++ [a]) n = if a.name = n ∧ saysF a = true then some a.value else lastF l n := by
  unfold lastF
  rw [List.reverse_append, List.reverse_singleton, List.singleton_append, List.find?_cons]
  by_cases h : a.name = n ∧ saysF a = true
  · rw [if_pos h]
    simp [h.1, h.2]
  · rw [if_neg h]
    have : (decide (a.name = n) && saysF a) = false := by
      rw [Bool.and_eq_false_iff]
      by_cases hn : a.name = n
      · right
        cases hs : saysF a with
        | false => rfl
        | true => exact absurd ⟨hn, hs⟩ h
      · left; exact decide_eq_false hn
    rw [this]
theorem dot_nil (v : List UInt8) : dotF v = [] ↔ (v = [] ∨ v = [46]) := by
  unfold dotF cutP
  cases hp : pre v [46] with
  | true =>
    obtain ⟨x, rfl⟩ := (pre_iff v [46]).1 hp
    simp
  | false =>
    refine ⟨fun h => .inl h, fun h => ?_⟩
    rcases h with rfl | rfl
    · rfl
    · exact absurd hp (by decide)
/-- The maker that the last attributes of each name tell. -/
noncomputable def specF (r : Raw) (f : From) (now : Int) (lf : List UInt8 → Option (List UInt8)) : Mk :=
  ⟨⟨r.name, r.value, (match lf nDom with | some v => fold (dotF v) | none => []), (match lf nPath with | some v => if pre v [47] then v else PathW.dflt f.path | none => PathW.dflt f.path), false, (lf nSec).isSome, (lf nHttp).isSome, (lf nAge).isSome || (lf nExp).isSome, (match lf nSite with | some v => siteF v | none => 0),
    (match lf nAge with | some v => if 0 < (ageF v).1 then afterF now (ageF v).1 else -11644473600 | none => match lf nExp with | some v => (readF v).1 | none => 253402300799), now, now, 0⟩, (lf nAge).isSome, (lf nDom).isSome, (lf nPath).isSome⟩
theorem spec_snoc (r : Raw) (f : From) (now : Int) (l : List Attr) (a : Attr) : attrF f now (specF r f now (lastF l)) a = specF r f now (lastF (l ++ [a])) := by
  have hl := last_snoc l a
  have e1 : nExp ≠ nAge := by decide
  have e2 : nExp ≠ nDom := by decide
  have e3 : nExp ≠ nPath := by decide
  have e4 : nExp ≠ nSec := by decide
  have e5 : nExp ≠ nHttp := by decide
  have e6 : nExp ≠ nSite := by decide
  have f2 : nAge ≠ nDom := by decide
  have f3 : nAge ≠ nPath := by decide
  have f4 : nAge ≠ nSec := by decide
  have f5 : nAge ≠ nHttp := by decide
  have f6 : nAge ≠ nSite := by decide
  have g3 : nDom ≠ nPath := by decide
  have g4 : nDom ≠ nSec := by decide
  have g5 : nDom ≠ nHttp := by decide
  have g6 : nDom ≠ nSite := by decide
  have i4 : nPath ≠ nSec := by decide
  have i5 : nPath ≠ nHttp := by decide
  have i6 : nPath ≠ nSite := by decide
  have j5 : nSec ≠ nHttp := by decide
  have j6 : nSec ≠ nSite := by decide
  have k6 : nHttp ≠ nSite := by decide
  by_cases h1 : a.name = nExp
  · have hs : saysF a = decide ((readF a.value).2 = 0) := by unfold saysF; rw [if_pos h1]
    have q1 := hl nExp; have q2 := hl nAge; have q3 := hl nDom; have q4 := hl nPath; have q5 := hl nSec; have q6 := hl nHttp; have q7 := hl nSite
    simp only [h1, hs, e1, e2, e3, e4, e5, e6, true_and, false_and, if_false, decide_eq_true_eq] at q1 q2 q3 q4 q5 q6 q7
    unfold attrF specF
    rw [if_pos h1, q1, q2, q3, q4, q5, q6, q7]
    by_cases h : (readF a.value).2 = 0
    · rw [if_pos h, if_pos h]
      cases lastF l nAge <;> simp
    · rw [if_neg h, if_neg h]
  by_cases h2 : a.name = nAge
  · have hs : saysF a = (ageF a.value).2 := by unfold saysF; rw [if_neg h1, if_pos h2]
    have q1 := hl nExp; have q2 := hl nAge; have q3 := hl nDom; have q4 := hl nPath; have q5 := hl nSec; have q6 := hl nHttp; have q7 := hl nSite
    simp only [h2, hs, Ne.symm e1, f2, f3, f4, f5, f6, true_and, false_and, if_false] at q1 q2 q3 q4 q5 q6 q7
    unfold attrF specF
    rw [if_neg h1, if_pos h2, q1, q2, q3, q4, q5, q6, q7]
    cases h : (ageF a.value).2
    · simp
    · simp
  by_cases h3 : a.name = nDom
  · have hs : saysF a = decide (a.value ≠ [] ∧ a.value ≠ [46]) := by unfold saysF; rw [if_neg h1, if_neg h2, if_pos h3]
    have hd := dot_nil a.value
    have q1 := hl nExp; have q2 := hl nAge; have q3 := hl nDom; have q4 := hl nPath; have q5 := hl nSec; have q6 := hl nHttp; have q7 := hl nSite
    simp only [h3, hs, Ne.symm e2, Ne.symm f2, g3, g4, g5, g6, true_and, false_and, if_false, decide_eq_true_eq] at q1 q2 q3 q4 q5 q6 q7
    unfold attrF specF
    rw [if_neg h1, if_neg h2, if_pos h3, q1, q2, q3, q4, q5, q6, q7]
    by_cases h : dotF a.value = []
    · have h' := hd.1 h
      rw [if_pos h, if_neg (fun hh => by rcases h' with h' | h'; exact hh.1 h'; exact hh.2 h')]
    · rw [if_neg h, if_pos ⟨fun e => h (hd.2 (.inl e)), fun e => h (hd.2 (.inr e))⟩]
      rfl
  have hs : saysF a = true := by unfold saysF; rw [if_neg h1, if_neg h2, if_neg h3]
  have q1 := hl nExp; have q2 := hl nAge; have q3 := hl nDom; have q4 := hl nPath; have q5 := hl nSec; have q6 := hl nHttp; have q7 := hl nSite
  simp only [h1, h2, h3, hs, and_true, if_false] at q1 q2 q3 q4 q5 q6 q7
  unfold attrF specF
  rw [if_neg h1, if_neg h2, if_neg h3, q1, q2, q3]
  by_cases h4 : a.name = nPath
  · simp only [h4, i4, i5, i6, if_true, if_false] at q4 q5 q6 q7
    rw [if_pos h4, q4, q5, q6, q7]
    rfl
  by_cases h5 : a.name = nSec
  · simp only [h5, Ne.symm i4, j5, j6, if_true, if_false] at q4 q5 q6 q7
    rw [if_neg h4, if_pos h5, q4, q5, q6, q7]
    rfl
  by_cases h6 : a.name = nHttp
  · simp only [h6, Ne.symm i5, Ne.symm j5, k6, if_true, if_false] at q4 q5 q6 q7
    rw [if_neg h4, if_neg h5, if_pos h6, q4, q5, q6, q7]
    rfl
  by_cases h7 : a.name = nSite
  · simp only [h7, Ne.symm i6, Ne.symm j6, Ne.symm k6, if_true, if_false] at q4 q5 q6 q7
    rw [if_neg h4, if_neg h5, if_neg h6, if_pos h7, q4, q5, q6, q7]
  simp only [h4, h5, h6, h7, if_false] at q4 q5 q6 q7
  rw [if_neg h4, if_neg h5, if_neg h6, if_neg h7, q4, q5, q6, q7]
theorem maker_spec (r : Raw) (f : From) (now : Int) : ∀ l : List Attr, l.foldl (attrF f now) (mk0 r f now) = specF r f now (lastF l) :=
  HostO.snoc_ind rfl fun l a ih => by
    rw [List.foldl_append, ih]
    exact spec_snoc r f now l a
end Go.Proofs.YtkgdkpiacencjaaGreatDoor.CookP
end

section
namespace Go.Proofs.YtkgdkpiacencjaaGreatDoor.Globs
open Go.RowKit Mem Abs TreeW

def Cells (f : Nat → Option Obj) (g : Nat) (cs : Array Value) : Prop := ∃ t fr, f g = some (.cells cs t fr)
def gN : Nat := max (max 1 2) 3 + 1
/-- strconv's two errors are errors; its table of powers is that. -/
def gStr : Glob := ⟨gN, fun f => (∃ v : Value, (v = .nilIface ∨ ∃ t p, v = .iface t p) ∧ Cells f 1 #[v]) ∧ (∃ v : Value, (v = .nilIface ∨ ∃ t p, v = .iface t p) ∧ Cells f 2 #[v]) ∧ Cells f 3 (Lib.pow10Tab.map fun z => Value.int .u64 z).toArray⟩
section
variable {X : Nat → Prop} {w : World} {l : List UInt8}
theorem at_cell {g : Nat} {cs : Array Value} (hg : g < gN) (h : Cells (fun i => if i < gN then w.heap[i]? else none) g cs) (i : Nat) : w.cell? ⟨g, i, none⟩ = cs[i]? := by
  obtain ⟨t, fr, h⟩ := h
  simp only [hg, if_true] at h
  unfold World.cell?
  simp only [h]
  rfl
theorem tab_is (h : GlOk gStr X w) : Lib.TabIs Tryz.prog w "internal/strconv.uint64pow10" .u64 Lib.pow10Tab := by
  obtain ⟨_, _, _, _, t, fr, h⟩ := h
  have e : Tryz.prog.globalNamed "internal/strconv.uint64pow10" = some 3 := by kernel_rfl
  unfold Lib.TabIs World.var?
  rw [e]
  have h : w.heap[3]? = _ := h
  simp only [Option.bind_some, h]
/-- A number's digits, and no others. -/
abbrev digits (n : Int) : List UInt8 := Lib.itoa n
theorem digits_len (n : Int) (h : InR .i64 n) : (digits n).length ≤ 21 := Lib.itoa_length_le n h.1 h.2
theorem itoa_v {n : Int} : ACallsG Tryz.prog gStr 93 [.int .i64 n] (strT (digits n)) := fun N w vs hG hN hlen hv => by
  obtain ⟨vs⟩ := vs
  match vs, hlen with
  | [x0], _ =>
    obtain ⟨rfl, h0⟩ := fz_int (hv 0 _ x0 rfl rfl)
    have h1 : -9223372036854775808 ≤ n ∧ n ≤ 9223372036854775807 := h0
    refine (Tryz.strconv_Itoa n h1.1 h1.2 w (tab_is hG)).mono fun e w' ⟨h2, k, os, h3⟩ => ⟨_, h2, ?_, .str ?_⟩
    · rw [h3]; exact Lib.below_grow _ _ (Nat.le_refl _) _ _
    · rw [str_size]; have := digits_len n h0; simp only [SLIM]; omega
/-- Atoi: the number, and whether there is one. -/
def atoiF (l : List UInt8) : Int × Bool := match Lib.atoiAll l with
  | .ok v => (v, true)
  | .range => (Lib.atoiSat l, false)
  | _ => (0, false)
/-- An error, or none. -/
def errT : Bool → Abs.V
  | true => .nili
  | false => .ifc 141 (.fp [] 0)
theorem atoi_in {v : Int} (h : Lib.atoiAll l = .ok v) : InR .i64 v := by
  unfold Lib.atoiAll at h
  split at h
  · cases h
  · dsimp only at h
    split at h
    · cases h
    · cases h
    · split at h
      · cases h
      · split at h
        · cases h
        · cases h
          constructor <;> simp only [rng] <;> split <;> omega
theorem sat_in (l : List UInt8) : InR .i64 (Lib.atoiSat l) := by
  unfold Lib.atoiSat
  split <;> exact ⟨by decide, by decide⟩
theorem atoi_v (hl : l.length ≤ 281474976710656) : ACallsG Tryz.prog gStr 92 [strT l] (.tup [.int .i64 (atoiF l).1, errT (atoiF l).2]) := fun N w vs hG hN hlen hv => by
  obtain ⟨vs⟩ := vs
  match vs, hlen with
  | [x0], _ =>
    obtain ⟨rfl, h0⟩ := fz_str (hv 0 _ x0 rfl rfl)
    obtain ⟨g1, g2, ⟨v1, i1, k1⟩, ⟨v2, i2, k2⟩, _⟩ := hG
    have sz : (str l).size ≤ 281474976710656 := by rw [str_size]; exact hl
    have two : ∀ {w' : World} {a b : Abs.V} {x y : Value}, Fz N w' a x → Fz N w' b y → Fz N w' (.tup [a, b]) (.tuple #[x, y]) := fun ha hb => .tup rfl fun i x c hx hc => by
      have hi : i < 2 := (List.getElem?_eq_some_iff.1 hx).1
      have : i = 0 ∨ i = 1 := by omega
      rcases this with rfl | rfl <;> (cases hx; cases hc)
      · exact ha
      · exact hb
    have far : ∀ {w' : World} {M : Nat} {o : Obj}, w.heap.size ≤ M → w'.heap[M]? = some o → Fz N w' (errT false) (.iface 141 (.pointer (some ⟨M, 0, none⟩))) := fun {w' M o} h1 h2 =>
      .ifc (.fp (cs := []) (o := 0) (fun _ => undef) (fun hx => by have := hN M hx; omega) (block_lt h2) (fun u hu => by cases hu) (fun j u hu => by simp at hu) (fun j u hu => by simp at hu))
    unfold atoiF
    rcases he : Lib.atoiAll l with v | _ | _
    · refine (Tryz.strconv_Atoi_ok (str l) (by omega) v (by rw [str_toList]; exact he) w).mono fun e w' ⟨h2, h3⟩ => ⟨_, h2, ?_, two (.int (atoi_in he)) .nili⟩
      rcases h3 with rfl | ⟨t, rfl⟩
      · exact Below.refl _ _
      · exact Lib.bytesWorld_below _ _ _
    · exact (Tryz.strconv_Atoi_syntax (str l) sz (by rw [str_toList, he]; exact ⟨fun v h => (by cases h), fun h => (by cases h)⟩) v1 w (at_cell (by decide) k1 0) i1).mono fun e w' ⟨M, h2, h3, h4, h5⟩ => ⟨_, h2, h5, two (.int (inR_zero _)) (far h3 h4)⟩
    · refine (Tryz.strconv_Atoi_range (str l) sz (by rw [str_toList]; exact he) v2 w (at_cell (by decide) k2 0) i2).mono fun e w' ⟨M, h2, h3, h4, h5⟩ => ⟨_, h2, h5, two ?_ (far h3 h4)⟩
      rw [str_toList]
      exact .int (sat_in l)
/-! ### Out of a row's condition -/
theorem laid_at {P : Program} {W : World} {n : String} {d : DataW Unit} : ∀ {l : List (String × DataW Unit)} {ps : List MemPlace}, DataW.LaidVars P W l ps → (n, d) ∈ l →
    ∃ g t cs fuel p, P.globalNamed n = some g ∧ (P.globals[g]?).map (·.type) = some t ∧ W.var? P n = some cs ∧ DataW.trod (fun _ => ()) P W 0 (fun _ => true) false fuel t cs.toList = some (d, p)
  | (m, e) :: r, ps, h, hm => by
    obtain ⟨g, t, cs, fuel, p, q, h1, h2, h3, h4, h5, _⟩ := h
    rcases List.mem_cons.1 hm with e | hm
    · cases e; exact ⟨g, t, cs, fuel, p, h1, h2, h3, h4⟩
    · exact laid_at h5 hm
theorem var_heap {P : Program} {W : World} {n : String} {g : Nat} {cs : Array Value} (hg : P.globalNamed n = some g) (h : W.var? P n = some cs) : ∃ t fr, W.heap[g]? = some (.cells cs t fr) := by
  unfold World.var? at h
  rw [hg] at h
  simp only [Option.bind_some] at h
  split at h
  · rename_i cs' t fr hh
    cases h
    exact ⟨t, fr, hh⟩
  · cases h
theorem trod_held {P : Program} {W : World} {fuel t ms : _} {cs : List Value} {d : DataW Unit} {p : List MemPlace} (ht : P.underlying t = some (.interface ms)) (h : DataW.trod (fun _ => ()) P W 0 (fun _ => true) false fuel t cs = some (d, p)) : ∃ v, cs = [v] ∧ (v = .nilIface ∨ ∃ u x, v = .iface u x) := by
  cases fuel with
  | zero => simp [DataW.trod] at h
  | succ fuel =>
    unfold DataW.trod at h
    rw [ht] at h
    split at h <;> first
      | (rename_i e1 e2; cases e2; exact ⟨_, rfl, .inl rfl⟩)
      | exact ⟨_, rfl, .inl rfl⟩
      | exact ⟨_, rfl, .inr ⟨_, _, rfl⟩⟩
      | (rename_i e; cases e)
      | cases h
theorem glob_of {laid : List (String × DataW Unit)} {d1 d2 : DataW Unit} {w : World} (h : laidMet Tryz.prog laid w) (m1 : ("strconv.ErrSyntax", d1) ∈ laid) (m2 : ("strconv.ErrRange", d2) ∈ laid) (m3 : ("internal/strconv.uint64pow10", Lib.tabData .u64 Lib.pow10Tab) ∈ laid) : GlOk gStr (fun _ => False) w := by
  obtain ⟨ps, h, _⟩ := h
  have ht : ∀ n g t, Tryz.prog.globalNamed n = some g → (Tryz.prog.globals[g]?).map (·.type) = some t → ∀ g' t', Tryz.prog.globalNamed n = some g' → (Tryz.prog.globals[g']?).map (·.type) = some t' → g' = g ∧ t' = t := fun n g t h1 h2 g' t' h3 h4 => by
    rw [h1] at h3; cases h3
    rw [h2] at h4; cases h4
    exact ⟨rfl, rfl⟩
  obtain ⟨g, t, cs, fuel, p, a1, a2, a3, a4⟩ := laid_at h m1
  obtain ⟨rfl, rfl⟩ := ht _ 1 98 (by kernel_rfl) (by kernel_rfl) g t a1 a2
  obtain ⟨v1, e1, i1⟩ := trod_held Tryz.underlying98 a4
  obtain ⟨t1, fr1, b1⟩ := var_heap a1 a3
  obtain ⟨g', t', cs', fuel', p', c1, c2, c3, c4⟩ := laid_at h m2
  obtain ⟨rfl, rfl⟩ := ht _ 2 98 (by kernel_rfl) (by kernel_rfl) g' t' c1 c2
  obtain ⟨v2, e2, i2⟩ := trod_held Tryz.underlying98 c4
  obtain ⟨t2, fr2, b2⟩ := var_heap c1 c3
  obtain ⟨g3, t3, cs3, fuel3, p3, k1, k2, k3, k4⟩ := laid_at h m3
  obtain ⟨rfl, rfl⟩ := ht _ 3 182 (by kernel_rfl) (by kernel_rfl) g3 t3 k1 k2
  obtain ⟨tt, fr3, b3⟩ := var_heap k1 k3
  have e3 := Lib.cells_of_tab Tryz.underlying182 Tryz.underlying162 (by kernel_rfl) (by kernel_rfl) k4
  have e1 : cs = #[v1] := by apply Array.ext'; simpa using e1
  have e2 : cs' = #[v2] := by apply Array.ext'; simpa using e2
  have e3 : cs3 = (Lib.pow10Tab.map fun z => Value.int .u64 z).toArray := by apply Array.ext'; simpa using e3
  have hsz : ∀ g o, w.heap[g]? = some o → g < w.heap.size := fun g o h => (Array.getElem?_eq_some_iff.1 h).1
  have z1 := hsz _ _ b1
  have z2 := hsz _ _ b2
  have z3 := hsz _ _ b3
  refine ⟨by show gN ≤ _; unfold gN; omega, fun b hb => hb.elim, ⟨v1, i1, t1, fr1, ?_⟩, ⟨v2, i2, t2, fr2, ?_⟩, ⟨tt, fr3, ?_⟩⟩
  · rw [← e1]; exact (if_pos (show 1 < gN by decide)).trans b1
  · rw [← e2]; exact (if_pos (show 2 < gN by decide)).trans b2
  · rw [← e3]; exact (if_pos (show 3 < gN by decide)).trans b3
end
end Go.Proofs.YtkgdkpiacencjaaGreatDoor.Globs
end

section
namespace Go.Proofs.YtkgdkpiacencjaaGreatDoor.Both
open Go.RowKit Mem Abs TreeW Globs StampB

def gMax : Glob := ⟨0 + 1, fun h => ∃ m T fr, h 0 = some (.cells #[.int .i64 m] T fr)⟩
def gBoth : Glob := ⟨max gStr.n gMax.n, fun f => gStr.P (fun i => if i < gStr.n then f i else none) ∧ gMax.P (fun i => if i < gMax.n then f i else none)⟩
theorem both_cut {w : World} {n m : Nat} (h : n ≤ m) : (fun i => if i < n then (if i < m then w.heap[i]? else none) else none) = fun i => if i < n then w.heap[i]? else none := by
  funext i
  by_cases hi : i < n
  · rw [if_pos hi, if_pos hi, if_pos (Nat.lt_of_lt_of_le hi h)]
  · rw [if_neg hi, if_neg hi]
theorem both_str {X : Nat → Prop} {w : World} (h : GlOk gBoth X w) : GlOk gStr X w := by
  obtain ⟨h1, h2, h3, h4⟩ := h
  have e := both_cut (w := w) (Nat.le_max_left gStr.n gMax.n)
  refine ⟨Nat.le_trans (Nat.le_max_left _ _) h1, fun b hb => Nat.le_trans (Nat.le_max_left _ _) (h2 b hb), ?_⟩
  rw [← e]
  exact h3
theorem str_g {f : FuncId} {us : List Abs.V} {r : Abs.V} (h : ACallsG Tryz.prog gStr f us r) : ACallsG Tryz.prog gBoth f us r := fun N w vs hG => h N w vs (both_str hG)
theorem str_mg {f : FuncId} {us : List Abs.V} {st : List Blk} {r : Abs.V} {st2 : List (Option Blk)} (h : MCallsG Tryz.prog gStr f us st r st2) : MCallsG Tryz.prog gBoth f us st r st2 := fun N M φ w vs hR => fun hl hv => by
  have hg := both_str hR.gl
  refine Calls.mono (h N M φ w vs ⟨hR.st, hR.inj, hR.lim, hR.dis, hg⟩ hl hv) ?_
  rintro e w2 ⟨x, M2, p2, g1, g2, g3, g4, g5, g6⟩
  exact ⟨x, M2, p2, g1, g2, g3, g4, ⟨g5.st, g5.inj, g5.lim, g5.dis, hR.gl.stays (⟨g2.os, g2.tape, g2.output, g2.size, fun b hb hm => g2.block b hb fun h => hm (.inl h)⟩) (fun b hb h => h.imp (g3 b hb) id)⟩, g6⟩
theorem hasBoth : HasMax gBoth := ⟨Nat.lt_of_lt_of_le (Nat.lt_succ_self _) (Nat.le_max_right _ _), fun _h ⟨_, m, T, fr, e⟩ => ⟨m, T, fr, (if_pos (Nat.lt_succ_self _)).symm.trans e⟩⟩
theorem glob_both {w : World} (h1 : GlOk gStr (fun _ => False) w) (h2 : GlOk gMax (fun _ => False) w) : GlOk gBoth (fun _ => False) w := by
  refine ⟨Nat.max_le.2 ⟨h1.1, h2.1⟩, fun b hb => hb.elim, ?_, ?_⟩
  · have := h1.2.2
    rw [← both_cut (w := w) (Nat.le_max_left gStr.n gMax.n)] at this
    exact this
  · have := h2.2.2
    rw [← both_cut (w := w) (Nat.le_max_right gStr.n gMax.n)] at this
    exact this
theorem glob_max {W : World} (hs : W.ShapedOpen Tryz.prog) : GlOk gMax (fun _ => False) W := by
  obtain ⟨m, hm⟩ := Tryz.laysM219.s1_3 W hs
  have hm : W.cell? ⟨0, 0, none⟩ = some (.int .i64 m) := hm
  obtain ⟨cs, he, hz, _⟩ := hs.1 0 #[.int .i64 0] _ (of_decide_eq_true (by kernel_rfl)) (show ((begin Tryz.prog (fun _ _ => 0) default).world.heap[0]?).bind Obj.row? = some (#[Value.int .i64 0], 3) by kernel_rfl)
  have h1 := (Array.getElem?_eq_some_iff.1 he).1
  obtain ⟨l⟩ := cs
  match l, hz with
  | [x], _ =>
    have hx : x = .int .i64 m := by
      have := hm
      unfold World.cell? at this
      simp only [he] at this
      simpa using this
    subst hx
    exact ⟨h1, fun b h => h.elim, m, _, _, (if_pos (Nat.lt_succ_self _)).trans he⟩
end Go.Proofs.YtkgdkpiacencjaaGreatDoor.Both
end

section
namespace Go.Proofs.YtkgdkpiacencjaaGreatDoor.HostB
open Go.RowKit Mem Abs HostP HostA TreeW WordP WordS

abbrev pairT (p : List UInt8 × Nat) : Abs.V := .tup [strT p.1, .int .i64 ((p.2 : Nat) : Int)]
set_option maxRecDepth 100000 in
set_option maxHeartbeats 4000000 in
theorem canon_v {l : List UInt8} : ACalls Tryz.prog 81 [strT l] (pairT (canonF l)) := ACalls.lim fun hl => by
  obtain ⟨hl, _⟩ := TreeW.str_lim hl
  have c1 := fold_v (l := l)
  refine fun1 tb_ok Tryz.func81 rfl Tryz.ntmps81 Tryz.results81 rfl fun N => ?_
  by_cases h0 : 253 < l.length
  · skip
    repeat' (first | refine zt ?_ | (refine isR ?_; first | refine zo ?_ | refine zA ?_ | refine zL ?_ | refine zc1 ?_ | refine zc3 ?_ | refine zI ?_ | (refine zs1 ?_ ?_ <;> intro hc) | (refine zs3 ?_ ?_ <;> intro hc)) | refine awp_split rfl (fun hb => ?_) (fun hb => ?_) | refine zr ?_ | exact x_le)
    unfold canonF; rw [if_pos h0]; rfl
  · obtain ⟨m, hm⟩ : ∃ m, fold l = m := ⟨_, rfl⟩
    have hml : m.length = l.length := by rw [← hm, fold_len]
    have c2 : ACalls _ _ [strT m, .int .u8 46] _ := parts_v (l := m) (u := 46) (by omega)
    have hs := split_len 46 m
    have es : canonF l = if (split 46 m).all label then (m, 0) else ([], 1) := by unfold canonF; rw [if_neg h0, hm]
    rw [es]
    rw [hm] at c1
    clear es hm
    generalize split 46 m = xs at *
    have hx : ((xs.map strT).length : Int) = (xs.length : Int) := by simp
    repeat' (first | refine zt ?_ | (refine isR ?_; first | refine zo ?_ | refine zk c1 ?_ | refine zk c2 ?_ | refine zA ?_ | refine zL ?_ | refine zc1 ?_ | refine zc3 ?_ | refine zI ?_ | (refine zs1 ?_ ?_ <;> intro hc) | (refine zs3 ?_ ?_ <;> intro hc)) | refine awp_split rfl (fun hb => ?_) (fun hb => ?_) | refine zr ?_ | exact x_le)
    refine awp_for (fun k => ⟨[(0, strT m), (12, strsT xs), (13, .int .i64 (xs.map strT).length), (14, .int .i64 (k : Int))], [], 0, 23⟩) (fun k => k ≤ xs.length ∧ Upto label xs k) xs.length 0 (by exact x_le) ⟨Nat.zero_le _, upto0⟩ ?_
    intro k ⟨hk, hq⟩
    by_cases hk2 : k < xs.length
    · have e1 : (xs.map strT)[k]? = some (strT xs[k]) := by simp [hk2]
      have e2 : xs[k]? = some xs[k] := by simp [hk2]
      generalize xs[k] = x at e1 e2
      have c3 := label_v (l := x)
      repeat' (first | refine zt ?_ | (refine isR ?_; first | refine zo ?_ | refine x_callS (c3 _) (fun hb => ?_) (fun hb => ?_) | refine x_callS (c3) (fun hb => ?_) (fun hb => ?_) | refine zA ?_ | refine zL ?_ | refine zc1 ?_ | refine zc3 ?_ | refine zI ?_ | (refine zs1 ?_ ?_ <;> intro hc) | (refine zs3 ?_ ?_ <;> intro hc)) | refine awp_split rfl (fun hb => ?_) (fun hb => ?_) | refine zr ?_ | exact x_le)
      · exact ⟨⟨by omega, hq.on e2 (by assumption)⟩, by omega, (by exact x_le)⟩
      · rw [all_no e2 (by assumption)]; rfl
    · skip
      repeat' (first | refine zt ?_ | (refine isR ?_; first | refine zo ?_ | refine zA ?_ | refine zL ?_ | refine zc1 ?_ | refine zc3 ?_ | refine zI ?_ | (refine zs1 ?_ ?_ <;> intro hc) | (refine zs3 ?_ ?_ <;> intro hc)) | refine awp_split rfl (fun hb => ?_) (fun hb => ?_) | refine zr ?_ | exact x_le)
      rw [hq.all hk2]; rfl
set_option maxRecDepth 100000 in
set_option maxHeartbeats 4000000 in
theorem hostOf_v {l : List UInt8} : ACalls Tryz.prog 80 [strT l] (pairT (canonF l)) := ACalls.lim fun hl => by
  obtain ⟨hl, _⟩ := TreeW.str_lim hl
  have c1 := foldOf_v (l := l)
  refine fun1 tb_ok Tryz.func80 rfl Tryz.ntmps80 Tryz.results80 rfl fun N => ?_
  by_cases h0 : 253 < l.length
  · skip
    repeat' (first | refine zt ?_ | (refine isR ?_; first | refine zo ?_ | refine zA ?_ | refine zL ?_ | refine zc1 ?_ | refine zc3 ?_ | refine zI ?_ | (refine zs1 ?_ ?_ <;> intro hc) | (refine zs3 ?_ ?_ <;> intro hc)) | refine awp_split rfl (fun hb => ?_) (fun hb => ?_) | refine zr ?_ | exact x_le)
    unfold canonF; rw [if_pos h0]; rfl
  · obtain ⟨m, hm⟩ : ∃ m, fold l = m := ⟨_, rfl⟩
    have hml : m.length = l.length := by rw [← hm, fold_len]
    have c2 : ACalls _ _ [strT m, .int .u8 46] _ := partsOf_v (l := m) (u := 46) (by omega)
    have hs := split_len 46 m
    have es : canonF l = if (split 46 m).all label then (m, 0) else ([], 1) := by unfold canonF; rw [if_neg h0, hm]
    rw [es]
    rw [hm] at c1
    clear es hm
    generalize split 46 m = xs at *
    have hx : ((xs.map strT).length : Int) = (xs.length : Int) := by simp
    repeat' (first | refine zt ?_ | (refine isR ?_; first | refine zo ?_ | refine zk c1 ?_ | refine zk c2 ?_ | refine zA ?_ | refine zL ?_ | refine zc1 ?_ | refine zc3 ?_ | refine zI ?_ | (refine zs1 ?_ ?_ <;> intro hc) | (refine zs3 ?_ ?_ <;> intro hc)) | refine awp_split rfl (fun hb => ?_) (fun hb => ?_) | refine zr ?_ | exact x_le)
    refine awp_for (fun k => ⟨[(0, strT m), (4, strsT xs), (5, .int .i64 (k : Int))], [], 0, 26⟩) (fun k => k ≤ xs.length ∧ Upto label xs k) xs.length 0 (by exact x_le) ⟨Nat.zero_le _, upto0⟩ ?_
    intro k ⟨hk, hq⟩
    by_cases hk2 : k < xs.length
    · have e1 : (xs.map strT)[k]? = some (strT xs[k]) := by simp [hk2]
      have e2 : xs[k]? = some xs[k] := by simp [hk2]
      generalize xs[k] = x at e1 e2
      have c3 := isLabel_v (l := x)
      repeat' (first | refine zt ?_ | (refine isR ?_; first | refine zo ?_ | refine x_callS (c3 _) (fun hb => ?_) (fun hb => ?_) | refine x_callS (c3) (fun hb => ?_) (fun hb => ?_) | refine zA ?_ | refine zL ?_ | refine zc1 ?_ | refine zc3 ?_ | refine zI ?_ | (refine zs1 ?_ ?_ <;> intro hc) | (refine zs3 ?_ ?_ <;> intro hc)) | refine awp_split rfl (fun hb => ?_) (fun hb => ?_) | refine zr ?_ | exact x_le)
      · exact ⟨⟨by omega, hq.on e2 (by assumption)⟩, by omega, (by exact x_le)⟩
      · rw [all_no e2 (by assumption)]; rfl
    · skip
      repeat' (first | refine zt ?_ | (refine isR ?_; first | refine zo ?_ | refine zA ?_ | refine zL ?_ | refine zc1 ?_ | refine zc3 ?_ | refine zI ?_ | (refine zs1 ?_ ?_ <;> intro hc) | (refine zs3 ?_ ?_ <;> intro hc)) | refine awp_split rfl (fun hb => ?_) (fun hb => ?_) | refine zr ?_ | exact x_le)
      rw [hq.all hk2]; rfl
end Go.Proofs.YtkgdkpiacencjaaGreatDoor.HostB
end
