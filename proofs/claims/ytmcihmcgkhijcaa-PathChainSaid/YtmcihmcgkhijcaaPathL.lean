/- The three laws on paths: their walks out of the contracts, and what they say in plain lists. -/
import Derived.Test.YtmcihmcgkhijcaaPathW
import Derived.RowKit3
namespace Go.Proofs.Ytmcihmcgkhijcaa.PathL
open Go.RowKit PathW

theorem mtch_refl (p : List UInt8) : mtch p p = true := by unfold mtch; simp [Lib.hasPrefix]
theorem mtch_iff (p o : List UInt8) : mtch p o = true ↔ ∃ r, p = o ++ r ∧ (r = [] ∨ (∃ q, o = q ++ [47]) ∨ ∃ t, r = 47 :: t) := by
  unfold mtch Lib.hasPrefix Lib.hasSuffix
  rw [Bool.and_eq_true, List.isPrefixOf_iff_prefix]
  constructor
  · rintro ⟨⟨r, rfl⟩, h⟩
    refine ⟨r, rfl, ?_⟩
    rcases Bool.or_eq_true _ _ ▸ h with h | h
    · exact .inl (by simpa using h)
    · rcases Bool.or_eq_true _ _ ▸ h with h | h
      · obtain ⟨q, hq⟩ := List.isSuffixOf_iff_suffix.1 h
        exact .inr (.inl ⟨q, hq.symm⟩)
      · refine .inr (.inr ?_)
        cases r with
        | nil => simp at h
        | cons c t => simp at h; exact ⟨t, by rw [h]⟩
  · rintro ⟨r, rfl, h⟩
    refine ⟨⟨r, rfl⟩, ?_⟩
    rcases h with rfl | ⟨q, rfl⟩ | ⟨t, rfl⟩
    · simp
    · have : ([47] : List UInt8).isSuffixOf (q ++ [47]) = true := List.isSuffixOf_iff_suffix.2 ⟨q, rfl⟩
      simp [this]
    · simp
theorem mtch_antisymm {p o : List UInt8} (h1 : mtch p o = true) (h2 : mtch o p = true) : p = o := by
  obtain ⟨r, rfl, _⟩ := (mtch_iff _ _).1 h1
  obtain ⟨s, hs, _⟩ := (mtch_iff _ _).1 h2
  have : r.length + s.length = 0 := by have := congrArg List.length hs; simp only [List.length_append] at this; omega
  have : r = [] := List.eq_nil_of_length_eq_zero (by omega)
  simp [this]
theorem mtch_trans {a b c : List UInt8} (h1 : mtch a b = true) (h2 : mtch b c = true) : mtch a c = true := by
  obtain ⟨r, rfl, g1⟩ := (mtch_iff _ _).1 h1
  obtain ⟨s, rfl, g2⟩ := (mtch_iff _ _).1 h2
  clear h1 h2
  refine (mtch_iff _ _).2 ⟨s ++ r, by simp, ?_⟩
  rcases g2 with rfl | g2 | ⟨t, rfl⟩
  · simpa using g1
  · exact .inr (.inl g2)
  · exact .inr (.inr ⟨_, rfl⟩)
theorem mtch_chain {p a b : List UInt8} (h1 : mtch p a = true) (h2 : mtch p b = true) : mtch a b = true ∨ mtch b a = true := by
  obtain ⟨r, rfl, g1⟩ := (mtch_iff _ _).1 h1
  obtain ⟨s, hs, g2⟩ := (mtch_iff _ _).1 h2
  clear h1 h2
  rcases List.append_eq_append_iff.1 hs with ⟨u, rfl, rfl⟩ | ⟨u, rfl, rfl⟩
  · right
    refine (mtch_iff _ _).2 ⟨u, rfl, ?_⟩
    cases u with
    | nil => exact .inl rfl
    | cons c u =>
      rcases g1 with h | h | ⟨t, h⟩
      · cases h
      · exact .inr (.inl h)
      · cases h; exact .inr (.inr ⟨_, rfl⟩)
  · left
    refine (mtch_iff _ _).2 ⟨u, rfl, ?_⟩
    cases u with
    | nil => exact .inl rfl
    | cons c u =>
      rcases g2 with h | h | ⟨t, h⟩
      · cases h
      · exact .inr (.inl h)
      · cases h; exact .inr (.inr ⟨_, rfl⟩)
theorem dflt_mtch {p : List UInt8} (h : p.head? = some 47) : mtch p (dflt p) = true ∧ (dflt p).head? = some 47 ∧ (dflt p).length ≤ p.length := by
  obtain ⟨t, rfl⟩ : ∃ a, p = 47 :: a := by cases p with | nil => cases h | cons x a => injection h with h; subst h; exact ⟨a, rfl⟩
  unfold dflt
  by_cases h1 : Lib.Pa.lastIndexByte (47 :: t) 47 ≤ 0
  · rw [if_pos (.inl h1)]
    refine ⟨(mtch_iff _ _).2 ⟨t, rfl, .inr (.inl ⟨[], rfl⟩)⟩, rfl, by simp⟩
  · rw [if_neg (by simpa using h1)]
    rcases Lib.Pa.lastIndexByte_spec (47 :: t) 47 with ⟨h2, _⟩ | ⟨i, h2, h3, _⟩
    · omega
    · rw [h2]
      cases i with
      | zero => omega
      | succ i =>
        refine ⟨(mtch_iff _ _).2 ⟨(47 :: t).drop (i + 1), by simp, .inr (.inr ⟨(47 :: t).drop (i + 2), ?_⟩)⟩, by simp, by simp; omega⟩
        obtain ⟨hi, he⟩ := List.getElem?_eq_some_iff.1 h3
        rw [List.drop_eq_getElem_cons hi, he]
theorem dflt_le (p : List UInt8) : (dflt p).length ≤ p.length + 1 := by
  unfold dflt; split
  · simp
  · rw [List.length_take]; omega

theorem size_of (l : List UInt8) : (⟨l.toArray⟩ : ByteArray).size = l.length := Lib.Pa.size_mk l

set_option maxHeartbeats 400000 in
theorem pathTells (p o : ByteArray) (hp : p.size ≤ maxLen) (ho : o.size ≤ maxLen) (w : World) :
    Calls Try.prog 3 #[.string p, .string o] w fun e w' => e = .returned (.bool true) ∧ Grown w w' := by
  unfold maxLen at hp ho
  go_enter Try.func3, Try.ntmps3
  go_wp2_with (first
    | (go_at_call 17; refine (begun_any _).mono ?_; rintro e w' ⟨rfl, rfl⟩)
    | (go_at_call 18; refine (default_any _ _ hp).mono ?_; rintro e w' ⟨rfl, rfl⟩)
    | (go_at_call 19; refine (defaultOf_any _ _ hp).mono ?_; rintro e w' ⟨rfl, rfl⟩)
    | (go_at_call 20; refine (match_any _ _ _ ho).mono ?_; rintro e w' ⟨rfl, rfl⟩)
    | (go_at_call 21; refine (pathMatch_any _ _ _ hp ho).mono ?_; rintro e w' ⟨rfl, rfl⟩))
  go_ret
  exact ⟨rfl, Grown.refl _⟩

set_option maxHeartbeats 400000 in
theorem pathOrder (a b c : ByteArray) (ha : a.size ≤ maxLen) (hb : b.size ≤ maxLen) (hc : c.size ≤ maxLen) (w : World) :
    Calls Try.prog 4 #[.string a, .string b, .string c] w fun e w' => e = .returned (.bool true) ∧ Grown w w' := by
  unfold maxLen at ha hb hc
  have haa : mtch a.data.toList a.data.toList = true := mtch_refl _
  have an : ∀ _ : mtch a.data.toList b.data.toList = true, ∀ _ : mtch b.data.toList a.data.toList = true, a = b := fun h1 h2 => by
    have := mtch_antisymm h1 h2
    obtain ⟨⟨x⟩⟩ := a; obtain ⟨⟨y⟩⟩ := b; simpa using this
  have tr : ∀ _ : mtch a.data.toList b.data.toList = true, ∀ _ : mtch b.data.toList c.data.toList = true, mtch a.data.toList c.data.toList = true := mtch_trans
  have AN := Lib.hid an; have TR := Lib.hid tr; clear an tr
  go_enter Try.func4, Try.ntmps4
  go_wp2_with (first
    | (go_at_call 17; refine (begun_any _).mono ?_; rintro e w' ⟨rfl, rfl⟩)
    | (go_at_call 20; refine (match_any _ _ _ (by assumption)).mono ?_; rintro e w' ⟨rfl, rfl⟩))
  all_goals go_ret
  all_goals refine ⟨ret_bool ?_, Grown.refl _⟩
  all_goals first | rfl | exact TR.out ‹_› ‹_› | (exfalso; rename_i h; exact h (congrArg ByteArray.toList (AN.out ‹_› ‹_›)))

def s_is47 (p : ByteArray) (h : 0 < p.size) : Bool := !((p[0].toNat : Int) != 47)
theorem begins (p : ByteArray) (h : 0 < p.size) (h1 : s_is47 p h = true) : p.data.toList.head? = some 47 := by
  unfold s_is47 at h1; rw [head_eq p h]; rw [Lib.Pa.bne47] at h1; simpa using h1

set_option maxHeartbeats 400000 in
theorem pathChain (p a b : ByteArray) (hp : p.size ≤ maxLen) (ha : a.size ≤ maxLen) (hb : b.size ≤ maxLen) (w : World) :
    Calls Try.prog 5 #[.string p, .string a, .string b] w fun e w' => e = .returned (.bool true) ∧ Grown w w' := by
  unfold maxLen at hp ha hb
  have hs1 : (⟨(dflt p.data.toList).toArray⟩ : ByteArray).size ≤ 9223372036854775807 := by
    by_cases h : p.data.toList.head? = some 47
    · have := (dflt_mtch h).2.2; rw [size_of]; rw [← Lib.size_eq] at this; omega
    · rw [show dflt p.data.toList = [47] from if_pos (.inr h)]; decide
  have hs2 : (⟨(dflt (dflt p.data.toList)).toArray⟩ : ByteArray).size ≤ 9223372036854775807 := by
    by_cases h : (dflt p.data.toList).head? = some 47
    · have := (dflt_mtch h).2.2; rw [size_of] at hs1 ⊢; omega
    · rw [show dflt (dflt p.data.toList) = [47] from if_pos (.inr h)]; decide
  have ch : ∀ _ : mtch p.data.toList a.data.toList = true, ∀ _ : mtch p.data.toList b.data.toList = true, mtch a.data.toList b.data.toList = true ∨ mtch b.data.toList a.data.toList = true := mtch_chain
  have CH := Lib.hid ch; clear ch
  by_cases h0 : 0 < p.size
  · have hz : ((p.size : Int) == 0) = false := beq_eq_false_iff_ne.2 (by omega)
    by_cases h1 : s_is47 p h0 = true
    · obtain ⟨d1, d2, d3⟩ := dflt_mtch (begins p h0 h1)
      have d4 := (dflt_mtch d2).1
      have hb1 : ((p[0].toNat : Int) != 47) = false := by unfold s_is47 at h1; simpa using h1
      rw [← Lib.size_eq] at d3
      clear d2 h1
      go_enter Try.func5, Try.ntmps5
      go_wp2_with (first
        | (go_at_call 17; refine (begun_any _).mono ?_; rintro e w' ⟨rfl, rfl⟩)
        | (go_at_call 18; refine (default_any _ _ (by assumption)).mono ?_; rintro e w' ⟨rfl, rfl⟩)
        | (go_at_call 20; refine (match_any _ _ _ (by assumption)).mono ?_; rintro e w' ⟨rfl, rfl⟩))
      all_goals go_ret
      all_goals refine ⟨ret_bool ?_, Grown.refl _⟩
      all_goals first | rfl | (exfalso; rcases CH.out ‹_› ‹_› with h | h <;> simp [h] at *; done)
    · have hb1 : ((p[0].toNat : Int) != 47) = true := by unfold s_is47 at h1; simpa using h1
      clear h1
      go_enter Try.func5, Try.ntmps5
      go_wp2_with (first
        | (go_at_call 17; refine (begun_any _).mono ?_; rintro e w' ⟨rfl, rfl⟩)
        | (go_at_call 18; refine (default_any _ _ (by assumption)).mono ?_; rintro e w' ⟨rfl, rfl⟩)
        | (go_at_call 20; refine (match_any _ _ _ (by assumption)).mono ?_; rintro e w' ⟨rfl, rfl⟩))
      all_goals go_ret
      all_goals refine ⟨ret_bool ?_, Grown.refl _⟩
      all_goals first | rfl | (exfalso; rcases CH.out ‹_› ‹_› with h | h <;> simp [h] at *; done)
  · have hz : ((p.size : Int) == 0) = true := beq_iff_eq.2 (by omega)
    go_enter Try.func5, Try.ntmps5
    go_wp2_with (first
      | (go_at_call 17; refine (begun_any _).mono ?_; rintro e w' ⟨rfl, rfl⟩)
      | (go_at_call 18; refine (default_any _ _ (by assumption)).mono ?_; rintro e w' ⟨rfl, rfl⟩)
      | (go_at_call 20; refine (match_any _ _ _ (by assumption)).mono ?_; rintro e w' ⟨rfl, rfl⟩))
    all_goals go_ret
    all_goals refine ⟨ret_bool ?_, Grown.refl _⟩
    all_goals first | rfl | (exfalso; rcases CH.out ‹_› ‹_› with h | h <;> simp [h] at *; done)
end Go.Proofs.Ytmcihmcgkhijcaa.PathL
