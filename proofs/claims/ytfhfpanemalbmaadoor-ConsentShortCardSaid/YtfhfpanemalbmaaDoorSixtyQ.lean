/- The plain laws of letters: reading back. -/
import Derived.Test.YtfhfpanemalbmaaDoorSixtyP
import Derived.Lib.IndexBytes
import Derived.Lib.TrimByte
namespace Go.Proofs.YtfhfpanemalbmaaDoor.SixtyQ
open BitsP SixtyP

def place (c : UInt8) : Nat := abc.idxOf c
theorem u8_all (p : UInt8 → Bool) (h : ∀ m : Fin 256, p (UInt8.ofNat m.val) = true) (c : UInt8) : p c = true := by
  have := h ⟨c.toNat, c.toNat_lt⟩
  simpa using this
theorem place_letter (n : Nat) (h : n < 64) : place (letter n) = n := by
  have key : ∀ m : Fin 64, place (letter m.val) = m.val := by decide +kernel
  exact key ⟨n, h⟩
theorem letter_place (c : UInt8) (h : place c < 64) : letter (place c) = c := by
  have := u8_all (fun c => !decide (place c < 64) || letter (place c) == c) (by decide +kernel) c
  simpa [h] using this
theorem index_place (c : UInt8) : Lib.indexByte abc c = if place c < 64 then (place c : Int) else -1 := by
  have := u8_all (fun c => Lib.indexByte abc c == if place c < 64 then (place c : Int) else -1) (by decide +kernel) c
  simpa using this
def known (t : List UInt8) : Bool := t.all fun c => decide (place c < 64)
def dbits (t : List UInt8) : List Nat := t.flatMap fun c => bitsOf (place c) 6
theorem dbits_cons (c : UInt8) (t : List UInt8) : dbits (c :: t) = bitsOf (place c) 6 ++ dbits t := rfl
theorem dbits_app (a b : List UInt8) : dbits (a ++ b) = dbits a ++ dbits b := by simp [dbits]
theorem dbits_len (t : List UInt8) : (dbits t).length = 6 * t.length := by
  induction t with
  | nil => rfl
  | cons c l ih => rw [dbits_cons, List.length_append, bitsOf_len, ih, List.length_cons]; omega
theorem dbits_bin (t : List UInt8) : Bin (dbits t) := by
  intro b hb
  simp only [dbits, List.mem_flatMap] at hb
  obtain ⟨c, _, hb⟩ := hb
  exact bitsOf_bin _ _ b hb
theorem enc6_dbits (t : List UInt8) (h : known t = true) : enc6 (dbits t) = t := by
  induction t with
  | nil => rfl
  | cons c l ih =>
    simp only [known, List.all_cons, Bool.and_eq_true, decide_eq_true_eq] at h
    rw [dbits_cons, enc6_app _ _ (bitsOf_len _ _), num_bitsOf, Nat.mod_eq_of_lt (by simpa using h.1), letter_place c h.1, ih h.2]
/-- Six bits' number, and back. -/
theorem bits_num (l : List Nat) (h : Bin l) : bitsOf (num l) l.length = l := by
  revert h
  refine snoc_ind (p := fun l => Bin l → bitsOf (num l) l.length = l) (fun _ => rfl) (fun l b ih h => ?_) l
  have h1 := ih h.left
  have h2 : b < 2 := h b (by simp)
  have key : ∀ (w n b : Nat), b < 2 → bitsOf (2 * n + b) (w + 1) = bitsOf n w ++ [b] := by
    intro w
    induction w with
    | zero => intro n b hb; simp [bitsOf]; omega
    | succ w ihw =>
      intro n b hb
      rw [bitsOf, ihw n b hb, bitsOf]
      simp only [List.cons_append, List.cons.injEq, and_true]
      rw [Nat.pow_succ, Nat.mul_comm (2 ^ w) 2, ← Nat.div_div_eq_div_mul]
      congr 2; omega
  rw [num_snoc, List.length_append, List.length_singleton, key _ _ _ h2, h1]
def pad6 (l : List Nat) : List Nat := l ++ List.replicate ((6 - l.length % 6) % 6) 0
theorem num_noughts (l : List Nat) (k : Nat) : num (l ++ List.replicate k 0) = num l * 2 ^ k := by
  induction k with
  | zero => simp
  | succ k ih => rw [List.replicate_succ', ← List.append_assoc, num_snoc, ih, Nat.pow_succ]; rw [Nat.add_zero, Nat.mul_comm 2, Nat.mul_assoc]
theorem bin_pad (l : List Nat) (k : Nat) (h : Bin l) : Bin (l ++ List.replicate k 0) := h.app fun b hb => by
  rw [(List.mem_replicate.1 hb).2]; omega
/-- One letter of a few bits. -/
theorem enc6_few (l : List Nat) (h0 : l ≠ []) (h : l.length ≤ 6) : enc6 l = [letter (num (l ++ List.replicate (6 - l.length) 0))] := by
  have hl : 0 < l.length := List.length_pos_iff.2 h0
  rw [enc6_step l h0, Nat.min_eq_right h, List.take_length, List.drop_length, num_noughts]; rfl
theorem enc6_pad : ∀ (n : Nat) (l : List Nat), l.length ≤ n → enc6 (pad6 l) = enc6 l
  | 0, l, h => by
    obtain rfl : l = [] := List.eq_nil_of_length_eq_zero (by omega)
    rfl
  | n + 1, l, h => by
    by_cases h0 : l = []
    · subst h0; rfl
    · have hl : 0 < l.length := List.length_pos_iff.2 h0
      by_cases h6 : l.length < 6
      · have e : (6 - l.length % 6) % 6 = 6 - l.length := by omega
        unfold pad6
        rw [e, enc6_few l h0 (by omega), enc6_few _ (by simp [h0]) (by simp; omega)]
        simp only [List.length_append, List.length_replicate]
        rw [show 6 - (l.length + (6 - l.length)) = 0 from by omega]; simp
      · have ht : (l.take 6).length = 6 := by rw [List.length_take]; omega
        have hs : l = l.take 6 ++ l.drop 6 := (List.take_append_drop 6 l).symm
        have e : pad6 l = l.take 6 ++ pad6 (l.drop 6) := by
          unfold pad6
          rw [← List.append_assoc, ← hs, List.length_drop]; congr 2; omega
        rw [e, enc6_app _ _ ht, enc6_pad n (l.drop 6) (by rw [List.length_drop]; omega)]
        conv => { rhs; rw [hs, enc6_app _ _ ht] }
theorem dec6 : ∀ (n : Nat) (l : List Nat), l.length ≤ n → Bin l → known (enc6 l) = true ∧ dbits (enc6 l) = pad6 l
  | 0, l, h, hb => by
    obtain rfl : l = [] := List.eq_nil_of_length_eq_zero (by omega)
    exact ⟨rfl, rfl⟩
  | n + 1, l, h, hb => by
    by_cases h0 : l = []
    · subst h0; exact ⟨rfl, rfl⟩
    · have hl : 0 < l.length := List.length_pos_iff.2 h0
      have one : ∀ m : List Nat, Bin m → m.length = 6 → place (letter (num m)) < 64 ∧ bitsOf (place (letter (num m))) 6 = m := fun m hm h6 => by
        have h1 := num_lt hm
        rw [h6] at h1
        have h2 := bits_num m hm
        rw [h6] at h2
        rw [place_letter _ (by simpa using h1)]
        exact ⟨by simpa using h1, h2⟩
      by_cases h6 : l.length < 6
      · have e : (6 - l.length % 6) % 6 = 6 - l.length := by omega
        obtain ⟨o1, o2⟩ := one (l ++ List.replicate (6 - l.length) 0) (bin_pad l _ hb) (by simp; omega)
        rw [enc6_few l h0 (by omega)]
        unfold pad6
        rw [e]
        refine ⟨by simp [known, o1], ?_⟩
        rw [dbits_cons, o2]; simp [dbits]
      · have ht : (l.take 6).length = 6 := by rw [List.length_take]; omega
        have hs : l = l.take 6 ++ l.drop 6 := (List.take_append_drop 6 l).symm
        have e : pad6 l = l.take 6 ++ pad6 (l.drop 6) := by
          unfold pad6
          rw [← List.append_assoc, ← hs, List.length_drop]; congr 2; omega
        have hb' := hb
        rw [hs] at hb'
        obtain ⟨o1, o2⟩ := one (l.take 6) hb'.left ht
        obtain ⟨i1, i2⟩ := dec6 n (l.drop 6) (by rw [List.length_drop]; omega) hb'.right
        have e2 : enc6 l = letter (num (l.take 6)) :: enc6 (l.drop 6) := by
          conv => { lhs; rw [hs, enc6_app _ _ ht] }
        rw [e2, e]
        refine ⟨?_, by rw [dbits_cons, o2, i2]⟩
        unfold known at i1 ⊢
        rw [List.all_cons, i1, decide_eq_true o1]; rfl
/-- What Read says. -/
def readF (t : List UInt8) : List UInt8 × Nat :=
  if known t = false then ([], 1)
  else if t.length % 4 = 1 then ([], 1)
  else if 400 < t.length * 6 / 8 then ([], 2)
  else if num ((dbits t).drop (8 * (t.length * 6 / 8))) ≠ 0 then ([], 1)
  else ((packB ((dbits t).take (8 * (t.length * 6 / 8)))).map UInt8.ofNat, 0)
theorem tbits_app (a b : List UInt8) : tbits (a ++ b) = tbits a ++ tbits b := by simp [tbits]
theorem byteAt_num (l : List Nat) (j : Nat) (h : 8 * j + 8 ≤ l.length) : byteAt l j = num ((l.drop (8 * j)).take 8) := by
  have e : ∀ i, i < 8 → l.getD (8 * j + i) 0 = ((l.drop (8 * j)).take 8).getD i 0 := fun i hi => by
    simp only [List.getD_eq_getElem?_getD]
    rw [List.getElem?_take_of_lt hi, List.getElem?_drop]
  have hl : ((l.drop (8 * j)).take 8).length = 8 := by rw [List.length_take, List.length_drop]; omega
  unfold byteAt
  rw [show 8 * j = 8 * j + 0 from rfl, e 0 (by omega), Nat.add_zero, e 1 (by omega), e 2 (by omega), e 3 (by omega), e 4 (by omega), e 5 (by omega), e 6 (by omega), e 7 (by omega)]
  generalize (l.drop (8 * j)).take 8 = m at hl
  match m, hl with
  | [a, b, c, d, e, f, g, h], _ => simp [num]; omega
theorem pack_tbits (s : List UInt8) : (packB (tbits s)).map UInt8.ofNat = s := by
  have hl := tbits_len s
  apply List.ext_getElem
  · simp [packB_len, hl]; omega
  · intro i h1 h2
    have h3 : (tbits s).drop (8 * i) = tbits (s.drop i) := by
      conv => { lhs; rw [← List.take_append_drop i s, tbits_app] }
      rw [List.drop_left' (by rw [tbits_len, List.length_take]; omega)]
    simp only [packB, List.getElem_map, List.getElem_range]
    rw [byteAt_num _ _ (by omega), h3, List.drop_eq_getElem_cons h2]
    have h4 : tbits (s[i] :: s.drop (i + 1)) = bitsOf s[i].toNat 8 ++ tbits (s.drop (i + 1)) := rfl
    rw [h4, List.take_left' (bitsOf_len _ _), num_bitsOf, Nat.mod_eq_of_lt (by simpa using s[i].toNat_lt)]
    simp
theorem tbits_packed (l : List Nat) (k : Nat) (hb : Bin l) (h : l.length = 8 * k) : tbits ((packB l).map UInt8.ofNat) = l := by
  have key : ∀ (k : Nat) (l : List Nat), Bin l → l.length = 8 * k → ∃ s : List UInt8, l = tbits s := by
    intro k
    induction k with
    | zero => intro l _ h; exact ⟨[], List.eq_nil_of_length_eq_zero (by omega)⟩
    | succ k ih =>
      intro l hb h
      have ht : (l.take 8).length = 8 := by rw [List.length_take]; omega
      have hs : l = l.take 8 ++ l.drop 8 := (List.take_append_drop 8 l).symm
      rw [hs] at hb
      obtain ⟨s, hs2⟩ := ih (l.drop 8) hb.right (by rw [List.length_drop]; omega)
      have h1 := num_lt hb.left
      have h2 := bits_num _ hb.left
      rw [ht] at h1 h2
      refine ⟨UInt8.ofNat (num (l.take 8)) :: s, ?_⟩
      have e : tbits (UInt8.ofNat (num (l.take 8)) :: s) = bitsOf (UInt8.ofNat (num (l.take 8))).toNat 8 ++ tbits s := rfl
      rw [e, UInt8.toNat_ofNat', Nat.mod_eq_of_lt (by simpa using h1), h2, ← hs2, ← hs]
  obtain ⟨s, rfl⟩ := key k l hb h
  rw [pack_tbits]
/-- What is written is read as it was. -/
theorem read_write (s : List UInt8) (h : s.length ≤ 400) : readF (enc6 (tbits s)) = (s, 0) ∧ (enc6 (tbits s)).length = (8 * s.length + 5) / 6 := by
  have hl := tbits_len s
  have hel := enc6_len _ (tbits s) (Nat.le_refl _)
  rw [hl] at hel
  obtain ⟨k, d⟩ := dec6 _ (tbits s) (Nat.le_refl _) (tbits_bin s)
  refine ⟨?_, hel⟩
  unfold readF
  rw [k, d, hel]
  have e : (8 * s.length + 5) / 6 * 6 / 8 = s.length := by omega
  rw [e, if_neg (by decide), if_neg (by omega), if_neg (by omega)]
  unfold pad6
  rw [List.drop_left' (by omega), List.take_left' (by omega), pack_tbits, if_neg]
  have := num_noughts [] ((6 - (tbits s).length % 6) % 6)
  simp [num] at this
  simp [num, this]
theorem num_zero (l : List Nat) (h : num l = 0) : l = List.replicate l.length 0 := by
  revert h
  refine snoc_ind (p := fun l => num l = 0 → l = List.replicate l.length 0) (fun _ => rfl) (fun l b ih h => ?_) l
  rw [num_snoc] at h
  have h1 := ih (by omega)
  have h2 : b = 0 := by omega
  subst h2
  rw [List.length_append, List.length_singleton, List.replicate_succ', ← h1]
/-- And what is read is written as it stood. -/
theorem write_read (t : List UInt8) (h : (readF t).2 = 0) : (readF t).1.length ≤ 400 ∧ enc6 (tbits (readF t).1) = t := by
  unfold readF at h ⊢
  by_cases h1 : known t = false
  · rw [if_pos h1] at h; cases h
  · rw [if_neg h1] at h ⊢
    by_cases h2 : t.length % 4 = 1
    · rw [if_pos h2] at h; cases h
    · rw [if_neg h2] at h ⊢
      by_cases h3 : 400 < t.length * 6 / 8
      · rw [if_pos h3] at h; cases h
      · rw [if_neg h3] at h ⊢
        by_cases h4 : num ((dbits t).drop (8 * (t.length * 6 / 8))) ≠ 0
        · rw [if_pos h4] at h; cases h
        · rw [if_neg h4]
          have hk : known t = true := by simpa using h1
          have hn : num ((dbits t).drop (8 * (t.length * 6 / 8))) = 0 := by omega
          have hl := dbits_len t
          have hz := num_zero _ hn
          rw [List.length_drop, hl] at hz
          have ht : ((dbits t).take (8 * (t.length * 6 / 8))).length = 8 * (t.length * 6 / 8) := by rw [List.length_take, hl]; omega
          have hb := dbits_bin t
          have hs : dbits t = (dbits t).take (8 * (t.length * 6 / 8)) ++ (dbits t).drop (8 * (t.length * 6 / 8)) := (List.take_append_drop _ _).symm
          have hb' := hb
          rw [hs] at hb'
          have hp : pad6 ((dbits t).take (8 * (t.length * 6 / 8))) = dbits t := by
            conv => { rhs; rw [hs, hz] }
            unfold pad6
            rw [ht]; congr 2
            have hq : t.length % 4 = 0 ∨ t.length % 4 = 2 ∨ t.length % 4 = 3 := by omega
            rcases hq with hq | hq | hq <;> omega
          refine ⟨by rw [List.length_map, packB_len, ht]; omega, ?_⟩
          rw [tbits_packed _ _ hb'.left ht, ← enc6_pad _ _ (Nat.le_refl _), hp, enc6_dbits t hk]
theorem read_none (t : List UInt8) (h : (readF t).2 ≠ 0) : (readF t).1 = [] := by
  unfold readF at h ⊢
  repeat' split
  all_goals first | rfl | (exfalso; simp_all)
/-! What Read looks at: the whole bytes, and what is left. -/
theorem getD_pad (l : List Nat) (k i : Nat) : (l ++ List.replicate k 0).getD i 0 = l.getD i 0 := by
  simp only [List.getD_eq_getElem?_getD]
  by_cases h : i < l.length
  · rw [List.getElem?_append_left h]
  · rw [List.getElem?_append_right (by omega), List.getElem?_eq_none (l := l) (by omega)]
    by_cases h2 : i - l.length < k
    · rw [List.getElem?_eq_getElem (by simpa using h2), List.getElem_replicate]; rfl
    · rw [List.getElem?_eq_none (by simp; omega)]
theorem byteAt_pad (l : List Nat) (k j : Nat) : byteAt (l ++ List.replicate k 0) j = byteAt l j := by
  unfold byteAt; simp only [getD_pad]
theorem last_byte (l : List Nat) (_h : l.length % 8 ≠ 0) : byteAt l (l.length / 8) = num (l.drop (8 * (l.length / 8))) * 2 ^ (8 - l.length % 8) := by
  rw [← byteAt_pad l (8 - l.length % 8), byteAt_num _ _ (by simp; omega), List.drop_append_of_le_length (by omega), List.take_of_length_le (by simp; omega), num_noughts]
theorem getD_take (l : List Nat) (n i : Nat) (h : i < n) : (l.take n).getD i 0 = l.getD i 0 := by
  simp only [List.getD_eq_getElem?_getD]
  rw [List.getElem?_take_of_lt h]
theorem pack_take (l : List Nat) (m : Nat) (h : 8 * m ≤ l.length) : (packB l).take m = packB (l.take (8 * m)) := by
  apply List.ext_getElem
  · rw [List.length_take, packB_len, packB_len, List.length_take]; omega
  · intro i h1 h2
    have hi : i < m := by rw [List.length_take] at h1; omega
    rw [List.getElem_take]
    simp only [packB, List.getElem_map, List.getElem_range]
    unfold byteAt
    rw [getD_take _ _ _ (by omega), getD_take _ _ _ (by omega), getD_take _ _ _ (by omega), getD_take _ _ _ (by omega), getD_take _ _ _ (by omega), getD_take _ _ _ (by omega), getD_take _ _ _ (by omega), getD_take _ _ _ (by omega)]
theorem pack_drop (l : List Nat) : (packB l).drop (l.length / 8) = if l.length % 8 = 0 then [] else [byteAt l (l.length / 8)] := by
  by_cases h : l.length % 8 = 0
  · rw [if_pos h, List.drop_of_length_le (by rw [packB_len]; omega)]
  · rw [if_neg h]
    have hl : l.length / 8 < (packB l).length := by rw [packB_len]; omega
    rw [List.drop_eq_getElem_cons hl, List.drop_of_length_le (by rw [packB_len]; omega)]
    simp [packB]
theorem trim_tail (l : List Nat) (hb : Bin l) : Lib.trimB (((packB l).map UInt8.ofNat).drop (l.length / 8)) 0 = [] ↔ num (l.drop (8 * (l.length / 8))) = 0 := by
  rw [← List.map_drop, pack_drop]
  by_cases h : l.length % 8 = 0
  · rw [if_pos h, List.drop_of_length_le (by omega)]; exact ⟨fun _ => rfl, fun _ => rfl⟩
  · rw [if_neg h, List.map_singleton]
    have hlt := byteAt_lt hb (l.length / 8)
    have e := last_byte l h
    have hp : 0 < 2 ^ (8 - l.length % 8) := Nat.two_pow_pos _
    generalize byteAt l (l.length / 8) = x at e hlt
    generalize num (l.drop (8 * (l.length / 8))) = y at e
    generalize 2 ^ (8 - l.length % 8) = z at e hp
    by_cases hx : x = 0
    · subst hx
      have : y = 0 := by rcases Nat.mul_eq_zero.1 e.symm with h | h <;> omega
      exact ⟨fun _ => this, fun _ => by decide⟩
    · have hy : y ≠ 0 := by rintro rfl; simp at e; exact hx e
      refine ⟨fun h => ?_, fun h => absurd h hy⟩
      have hne : (UInt8.ofNat x == 0) = false := by
        rw [beq_eq_false_iff_ne]; intro he
        have := congrArg UInt8.toNat he
        rw [UInt8.toNat_ofNat'] at this
        simp at this; omega
      simp [Lib.trimB, Lib.trimLeftB, Lib.trimRightB, hne] at h
theorem known_app (a b : List UInt8) : known (a ++ b) = (known a && known b) := by simp [known]
theorem read_bad {t : List UInt8} (h : known t = false) : readF t = ([], 1) := by unfold readF; rw [if_pos h]
theorem read_one {t : List UInt8} (h : known t = true) (h1 : t.length % 4 = 1) : readF t = ([], 1) := by unfold readF; rw [if_neg (by rw [h]; decide), if_pos h1]
theorem read_many {t : List UInt8} (h : known t = true) (h1 : ¬ t.length % 4 = 1) (h2 : 400 < t.length * 6 / 8) : readF t = ([], 2) := by unfold readF; rw [if_neg (by rw [h]; decide), if_neg h1, if_pos h2]
theorem read_rest {t : List UInt8} (h : known t = true) (h1 : ¬ t.length % 4 = 1) (h2 : ¬ 400 < t.length * 6 / 8) (h3 : ¬ num ((dbits t).drop (8 * (t.length * 6 / 8))) = 0) : readF t = ([], 1) := by unfold readF; rw [if_neg (by rw [h]; decide), if_neg h1, if_neg h2, if_pos h3]
theorem read_ok {t : List UInt8} (h : known t = true) (h1 : ¬ t.length % 4 = 1) (h2 : ¬ 400 < t.length * 6 / 8) (h3 : num ((dbits t).drop (8 * (t.length * 6 / 8))) = 0) : readF t = (((packB (dbits t)).map UInt8.ofNat).take (t.length * 6 / 8), 0) := by
  have hl := dbits_len t
  unfold readF; rw [if_neg (by rw [h]; decide), if_neg h1, if_neg h2, if_neg (by simpa using h3), ← List.map_take, pack_take _ _ (by omega)]
end Go.Proofs.YtfhfpanemalbmaaDoor.SixtyQ
