/- The plain laws of the chain: a link tells its parts; what Collide answers. -/
import Derived.Test.YtmcihmcgkhijcaaChainE
namespace Go.Proofs.Ytmcihmcgkhijcaa.ChainP
open ChainW ChainH ChainR ChainD ChainE

theorem be8_inj {h h' : Nat} (hh : h < 18446744073709551616) (hh' : h' < 18446744073709551616) (e : be8 h = be8 h') : h = h' := by
  simp only [be8, List.cons.injEq, and_true] at e
  obtain ⟨e0, e1, e2, e3, e4, e5, e6, e7⟩ := e
  have b0 := bv0 h; have b1 := bv1 h; have b2 := bv2 h; have b3 := bv3 h; have b4 := bv4 h; have b5 := bv5 h; have b6 := bv6 h; have b7 := bv7 h
  have c0 := bv0 h'; have c1 := bv1 h'; have c2 := bv2 h'; have c3 := bv3 h'; have c4 := bv4 h'; have c5 := bv5 h'; have c6 := bv6 h'; have c7 := bv7 h'
  rw [e0] at b0; rw [e1] at b1; rw [e2] at b2; rw [e3] at b3; rw [e4] at b4; rw [e5] at b5; rw [e6] at b6; rw [e7] at b7
  omega
theorem link_inj {h h' : Nat} {l l' : List UInt8} (hh : h < 18446744073709551616) (hh' : h' < 18446744073709551616) (e : link h l = link h' l') : h = h' ∧ l = l' := by
  unfold link at e
  obtain ⟨e1, e2⟩ := List.append_inj e rfl
  exact ⟨be8_inj hh hh' e1, e2⟩
theorem head_linkAt (L : List ByteArray) : head L = fnv (linkAt L L.length).data.toList := by
  rcases List.eq_nil_or_concat L with rfl | ⟨K, s, rfl⟩
  · rfl
  · rw [List.concat_eq_append, head_snoc]
    have e : (K ++ [s]).length = K.length + 1 := by simp
    rw [e, linkAt_snoc]
theorem link_ne (h : Nat) (l : List UInt8) : (⟨#[]⟩ : ByteArray) ≠ ⟨(link h l).toArray⟩ := fun e => by
  have h1 : ([] : List UInt8).length = (link h l).length := congrArg (fun x : ByteArray => x.data.toList.length) e
  rw [link_len] at h1
  simp at h1
  omega
theorem linkAt_inj (a b : List ByteArray) (e : linkAt a a.length = linkAt b b.length) (ih : head a.dropLast = head b.dropLast ↔ a.dropLast = b.dropLast) : a = b := by
  rcases List.eq_nil_or_concat a with rfl | ⟨K, s, rfl⟩ <;> rcases List.eq_nil_or_concat b with rfl | ⟨K', s', rfl⟩
  · rfl
  · rw [List.concat_eq_append] at e
    have e1 : (K' ++ [s']).length = K'.length + 1 := by simp
    rw [e1, linkAt_snoc] at e
    exact absurd e (link_ne _ _)
  · rw [List.concat_eq_append] at e
    have e1 : (K ++ [s]).length = K.length + 1 := by simp
    rw [e1, linkAt_snoc] at e
    exact absurd e.symm (link_ne _ _)
  · rw [List.concat_eq_append, List.concat_eq_append] at e ih ⊢
    have e1 : (K ++ [s]).length = K.length + 1 := by simp
    have e2 : (K' ++ [s']).length = K'.length + 1 := by simp
    rw [e1, e2, linkAt_snoc, linkAt_snoc] at e
    have e3 := congrArg (fun x : ByteArray => x.data.toList) e
    obtain ⟨h1, h2⟩ := link_inj (head_lt K) (head_lt K') e3
    rw [List.dropLast_concat, List.dropLast_concat] at ih
    rw [ih.1 h1, ba_ext h2]
theorem colR_law : ∀ (f : Nat) (a b : List ByteArray), a.length ≤ f → b.length ≤ f →
    if (colR f a b).2.2 = true then (colR f a b).1 ≠ (colR f a b).2.1 ∧ fnv (colR f a b).1.data.toList = fnv (colR f a b).2.1.data.toList ∧ head a = head b
    else (head a = head b ↔ a = b) ∧ (colR f a b).1 = ⟨#[]⟩ ∧ (colR f a b).2.1 = ⟨#[]⟩
  | 0, a, b, ha, hb => by
    obtain rfl := List.eq_nil_of_length_eq_zero (Nat.le_zero.1 ha)
    obtain rfl := List.eq_nil_of_length_eq_zero (Nat.le_zero.1 hb)
    simp [colR]
  | f + 1, a, b, ha, hb => by
    have ih := colR_law f a.dropLast b.dropLast (by simp; omega) (by simp; omega)
    unfold colR
    have h1 := head_linkAt a
    have h2 := head_linkAt b
    by_cases hst : linkAt a a.length = linkAt b b.length
    · simp only [if_pos hst]
      have hab : head a = head b := by rw [h1, h2, hst]
      by_cases ho : (colR f a.dropLast b.dropLast).2.2 = true
      · rw [if_pos ho] at ih ⊢
        exact ⟨ih.1, ih.2.1, hab⟩
      · rw [if_neg ho] at ih ⊢
        exact ⟨⟨fun _ => linkAt_inj a b hst ih.1, fun _ => hab⟩, ih.2⟩
    · simp only [if_neg hst]
      by_cases hf : fnv (linkAt a a.length).data.toList = fnv (linkAt b b.length).data.toList
      · simp only [if_pos hf, if_true]
        exact ⟨hst, hf, by rw [h1, h2, hf]⟩
      · simp only [if_neg hf]
        rw [if_neg (by decide)]
        exact ⟨⟨fun e => absurd (by rw [← h1, ← h2, e]) hf, fun e => by rw [e]⟩, by simp⟩
end Go.Proofs.Ytmcihmcgkhijcaa.ChainP
