/- The plain laws of package bits: what is written is read as it was; a number in two parts. -/
import Derived.Test.YtmcihmcgkhijcaaBitsR
namespace Go.Proofs.Ytmcihmcgkhijcaa.BitsQ
open BitsP BitsT BitsW BitsR

theorem byteAt_bit {l : List Nat} (h : Bin l) (j r : Nat) (hr : r < 8) : byteAt l j / 2 ^ (7 - r) % 2 = l.getD (8 * j + r) 0 := by
  unfold byteAt
  have h0 := h.getD (8 * j); have h1 := h.getD (8 * j + 1); have h2 := h.getD (8 * j + 2); have h3 := h.getD (8 * j + 3)
  have h4 := h.getD (8 * j + 4); have h5 := h.getD (8 * j + 5); have h6 := h.getD (8 * j + 6); have h7 := h.getD (8 * j + 7)
  have hc : r = 0 ∨ r = 1 ∨ r = 2 ∨ r = 3 ∨ r = 4 ∨ r = 5 ∨ r = 6 ∨ r = 7 := by omega
  rcases hc with rfl | rfl | rfl | rfl | rfl | rfl | rfl | rfl <;> (try simp only [Nat.add_zero]) <;> omega
def pad (l : List Nat) : Nat := 8 * ((l.length + 7) / 8) - l.length
theorem tbits_pack {l : List Nat} (h : Bin l) : tbits ((packB l).map UInt8.ofNat) = l ++ List.replicate (pad l) 0 := by
  have hlen : (tbits ((packB l).map UInt8.ofNat)).length = (l ++ List.replicate (pad l) 0).length := by
    rw [tbits_len]; simp [packB_len, pad]; omega
  apply List.ext_getElem hlen
  intro i h1 h2
  have hi : i < 8 * ((packB l).map UInt8.ofNat).length := by rw [← tbits_len]; exact h1
  have e := tbits_at _ i hi
  rw [List.getElem?_eq_getElem h1] at e
  have hq : i / 8 < (packB l).length := by simp at hi; omega
  have e2 : ((packB l).map UInt8.ofNat)[i / 8]'(by simpa using hq) = UInt8.ofNat (byteAt l (i / 8)) := by simp [packB]
  rw [Option.some.inj e, e2, UInt8.toNat_ofNat', Nat.mod_eq_of_lt (byteAt_lt h _), byteAt_bit h _ _ (by omega), Nat.div_add_mod]
  rw [List.getElem_append, List.getD_eq_getElem?_getD]
  by_cases hl : i < l.length
  · rw [dif_pos hl, List.getElem?_eq_getElem hl]; rfl
  · rw [dif_neg hl, List.getElem?_eq_none (by omega), List.getElem_replicate]; rfl
theorem tbits_app (a b : List UInt8) : tbits (a ++ b) = tbits a ++ tbits b := by simp [tbits]
theorem tbits_btx {l : List Nat} (h : Bin l) : tbits (btx l).data.toList = l ++ List.replicate (pad l) 0 := tbits_pack h
theorem btx_size (l : List Nat) : (btx l).size = (l.length + 7) / 8 := by simp [btx, ByteArray.size, packB_len]
theorem back_all (L : List (Nat × Int)) (rest : List Nat) (h : chk L = 0) : rchk (allBits L ++ rest) (L.map Prod.snd) = 0 ∧ rnums (allBits L ++ rest) (L.map Prod.snd) = L.map Prod.fst ∧ rlen (L.map Prod.snd) = (allBits L).length := by
  induction L generalizing rest with
  | nil => exact ⟨rfl, rfl, rfl⟩
  | cons f r ih =>
    simp only [chk] at h
    split at h
    · cases h
    · split at h
      · cases h
      · rename_i h1 h2
        obtain ⟨i1, i2, i3⟩ := ih rest h
        have e : allBits (f :: r) ++ rest = bitsOf f.1 f.2.toNat ++ (allBits r ++ rest) := by simp [allBits]
        have hl := bitsOf_len f.1 f.2.toNat
        have ed : (bitsOf f.1 f.2.toNat ++ (allBits r ++ rest)).drop f.2.toNat = allBits r ++ rest := by rw [List.drop_left' hl]
        have et : (bitsOf f.1 f.2.toNat ++ (allBits r ++ rest)).take f.2.toNat = bitsOf f.1 f.2.toNat := by rw [List.take_left' hl]
        rw [e]
        refine ⟨?_, ?_, ?_⟩
        · simp only [List.map_cons, rchk]
          rw [if_neg h1, if_neg (by rw [List.length_append, hl]; omega), ed]; exact i1
        · simp only [List.map_cons, rnums]
          rw [ed, et, i2, num_bitsOf, Nat.mod_eq_of_lt (by omega)]
        · simp only [List.map_cons, rlen, i3]; simp [allBits, hl]
theorem num_noughts (n : Nat) : num (List.replicate n 0) = 0 := by
  induction n with
  | zero => rfl
  | succ n ih => rw [List.replicate_succ', num_snoc, ih]
/-- What was written is read as it was. -/
theorem read_back (L : List (Nat × Int)) (b : ByteArray) (hl : ¬ 400 < L.length) (h : chk L = 0) : readF (btx (allBits L) ++ b) (L.map Prod.snd) = (L.map Prod.fst, pad (allBits L) + 8 * b.size, 0) := by
  have hb := allBits_bin L
  have e : tbits (btx (allBits L) ++ b).data.toList = allBits L ++ (List.replicate (pad (allBits L)) 0 ++ tbits b.data.toList) := by
    rw [ByteArray.data_append, Array.toList_append, tbits_app, tbits_btx hb, List.append_assoc]
  obtain ⟨h1, h2, h3⟩ := back_all L (List.replicate (pad (allBits L)) 0 ++ tbits b.data.toList) h
  unfold readF
  rw [if_neg (by simpa using hl), e, if_pos h1, h2, h3]
  simp only [Prod.mk.injEq, and_true, true_and]
  simp [btx_size, pad]; omega
theorem pad_lt (l : List Nat) : pad l ≤ 7 := by unfold pad; omega
/-- And the noughts behind. -/
theorem read_pad (L : List (Nat × Int)) (hl : L.length < 400) (h : chk L = 0) (h0 : pad (allBits L) ≠ 0) : readF (btx (allBits L)) (L.map Prod.snd ++ [(pad (allBits L) : Int)]) = (L.map Prod.fst ++ [0], 0, 0) := by
  have hb := allBits_bin L
  obtain ⟨h1, h2, h3⟩ := back_all L (List.replicate (pad (allBits L)) 0) h
  have hp := pad_lt (allBits L)
  have hw : wOk ((pad (allBits L) : Nat) : Int) = true := by rw [wOk_iff]; omega
  have ed : (allBits L ++ List.replicate (pad (allBits L)) 0).drop (rlen (L.map Prod.snd)) = List.replicate (pad (allBits L)) 0 := by rw [h3, List.drop_left]
  unfold readF
  rw [if_neg (by simp; omega), tbits_btx hb, rchk_app _ _ _ h1, ed, rnums_app, h2, ed, rlen_app, h3]
  have hs := btx_size (allBits L)
  rw [if_pos (by simp [rchk, hw])]
  simp only [rnums, rlen, Int.toNat_natCast, Nat.add_zero, Prod.mk.injEq, and_true]
  refine ⟨by rw [List.take_of_length_le (by simp), num_noughts], ?_⟩
  rw [hs]; unfold pad; omega

theorem bitsOf_mod (n a b : Nat) (h : a ≤ b) : bitsOf (n % 2 ^ b) a = bitsOf n a := by
  induction a with
  | zero => rfl
  | succ a ih =>
    simp only [bitsOf]
    rw [ih (by omega)]
    have : n % 2 ^ b / 2 ^ a % 2 = n / 2 ^ a % 2 := by
      have e : 2 ^ b = 2 ^ a * 2 ^ (b - a) := by rw [← Nat.pow_add]; congr 1; omega
      rw [e, Nat.mod_mul_right_div_self]
      have e2 : 2 ^ (b - a) = 2 * 2 ^ (b - a - 1) := by rw [← Nat.pow_succ']; congr 1; omega
      rw [e2, Nat.mod_mul_right_mod]
    rw [this]
/-- A number in two parts. -/
theorem bitsOf_parts (n k r : Nat) : bitsOf n (k + r) = bitsOf (n / 2 ^ r) k ++ bitsOf (n % 2 ^ r) r := by
  rw [bitsOf_mod n r r (Nat.le_refl _)]
  induction k with
  | zero => simp [bitsOf]
  | succ k ih =>
    rw [show k + 1 + r = (k + r) + 1 from by omega]
    simp only [bitsOf, List.cons_append, ih]
    rw [Nat.div_div_eq_div_mul, ← Nat.pow_add, Nat.add_comm r k]
theorem chk_mid {a b : List (Nat × Int)} {f : Nat × Int} (h : chk (a ++ f :: b) = 0) : chk a = 0 ∧ wOk f.2 = true ∧ f.1 < 2 ^ f.2.toNat ∧ chk b = 0 := by
  induction a with
  | nil =>
    simp only [List.nil_append, chk] at h
    split at h
    · cases h
    · split at h
      · cases h
      · rename_i h1 h2; exact ⟨rfl, by simpa using h1, by omega, h⟩
  | cons g r ih =>
    simp only [List.cons_append, chk] at h ⊢
    split at h
    · cases h
    · split at h
      · cases h
      · rename_i h1 h2
        obtain ⟨a1, a2, a3, a4⟩ := ih h
        rw [if_neg h1, if_neg h2]
        exact ⟨a1, a2, a3, a4⟩
theorem write_parts (a b : List (Nat × Int)) (n w k : Nat) (hlen : (a ++ (n, (w : Int)) :: b).length < 400) (h : chk (a ++ (n, (w : Int)) :: b) = 0) (hk : 1 ≤ k) (hw : k < w) :
    writeF (a ++ [(n / 2 ^ (w - k), (k : Int)), (n % 2 ^ (w - k), ((w - k : Nat) : Int))] ++ b) = writeF (a ++ (n, (w : Int)) :: b) ∧ (writeF (a ++ (n, (w : Int)) :: b)).2 = 0 := by
  obtain ⟨h1, h2, h3, h4⟩ := chk_mid h
  have hw64 := (wOk_iff _).1 h2
  simp only [Int.toNat_natCast] at h3
  have g1 : n / 2 ^ (w - k) < 2 ^ k := by
    rw [Nat.div_lt_iff_lt_mul (Nat.two_pow_pos _), ← Nat.pow_add]
    rw [show k + (w - k) = w from by omega]; exact h3
  have g2 : n % 2 ^ (w - k) < 2 ^ (w - k) := Nat.mod_lt _ (Nat.two_pow_pos _)
  have k1 : wOk (k : Int) = true := by rw [wOk_iff]; omega
  have k2 : wOk ((w - k : Nat) : Int) = true := by rw [wOk_iff]; omega
  have hc : chk (a ++ [(n / 2 ^ (w - k), (k : Int)), (n % 2 ^ (w - k), ((w - k : Nat) : Int))] ++ b) = 0 := by
    rw [List.append_assoc, chk_app _ _ h1]
    simp only [List.cons_append, List.nil_append, chk, k1, k2, Int.toNat_natCast]
    rw [if_neg (by decide), if_neg (by omega), if_neg (by decide), if_neg (by omega), h4]
  have hb : allBits (a ++ [(n / 2 ^ (w - k), (k : Int)), (n % 2 ^ (w - k), ((w - k : Nat) : Int))] ++ b) = allBits (a ++ (n, (w : Int)) :: b) := by
    have := bitsOf_parts n k (w - k)
    rw [show k + (w - k) = w from by omega] at this
    simp [allBits, this]
  unfold writeF
  rw [if_neg (by simp at hlen ⊢; omega), if_pos hc, if_neg (by simp at hlen ⊢; omega), if_pos h, hb]
  exact ⟨rfl, rfl⟩
end Go.Proofs.Ytmcihmcgkhijcaa.BitsQ
