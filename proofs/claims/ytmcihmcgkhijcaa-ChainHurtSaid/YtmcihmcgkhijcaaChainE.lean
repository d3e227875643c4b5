/- The walks of the reference's CollideOf, SameTexts and ByteText. -/
import Derived.Test.YtmcihmcgkhijcaaChainD
namespace Go.Proofs.Ytmcihmcgkhijcaa.ChainE
open Go.RowKit ChainW ChainH ChainR ChainD

theorem linkAt_take (a : List ByteArray) (i : Nat) (h : i ≤ a.length) : linkAt (a.take i) i = linkAt a i := by
  cases i with
  | zero => rfl
  | succ i =>
    rw [linkAt_succ a i h, linkAt_succ (a.take (i + 1)) i (by simp; omega)]
    have h1 : (a.take (i + 1)).take i = a.take i := by rw [List.take_take]; congr 1; omega
    have h2 : (a.take (i + 1))[i]'(by simp; omega) = a[i] := by simp
    rw [h1, h2]
theorem linkAt_snoc (K : List ByteArray) (s : ByteArray) : linkAt (K ++ [s]) (K.length + 1) = ⟨(link (head K) s.data.toList).toArray⟩ := by
  rw [linkAt_succ _ _ (by simp)]
  have h1 : (K ++ [s]).take K.length = K := by simp
  have h2 : (K ++ [s])[K.length]'(by simp) = s := by simp
  rw [h1, h2]
def colR : Nat → List ByteArray → List ByteArray → ByteArray × ByteArray × Bool
  | 0, _, _ => (⟨#[]⟩, ⟨#[]⟩, false)
  | f + 1, a, b => if linkAt a a.length = linkAt b b.length then colR f a.dropLast b.dropLast
      else if fnv (linkAt a a.length).data.toList = fnv (linkAt b b.length).data.toList then (linkAt a a.length, linkAt b b.length, true) else (⟨#[]⟩, ⟨#[]⟩, false)
theorem drop_take (a : List ByteArray) (i : Nat) (h : i ≤ a.length) : (a.take i).dropLast = a.take (i - 1) := by
  rw [List.dropLast_eq_take, List.take_take, List.length_take]
  congr 1; omega
theorem colF_R (a b : List ByteArray) : ∀ f i j, i ≤ a.length → j ≤ b.length → colF a b f i j = colR f (a.take i) (b.take j)
  | 0, _, _, _, _ => rfl
  | f + 1, i, j, hi, hj => by
    unfold colF colR
    have e1 : (a.take i).length = i := by simp; omega
    have e2 : (b.take j).length = j := by simp; omega
    rw [e1, e2, linkAt_take a i hi, linkAt_take b j hj, drop_take a i hi, drop_take b j hj, colF_R a b f (i - 1) (j - 1) (by omega) (by omega)]
theorem colF_full (a b : List ByteArray) (f : Nat) : colF a b f a.length b.length = colR f a b := by
  rw [colF_R a b f _ _ (Nat.le_refl _) (Nat.le_refl _), List.take_length, List.take_length]

theorem lastLink_any (n : Nat) (A : Option Addr) (c : Nat) (L : List ByteArray) (w : World) (hl : L.length = n) (hcap : n ≤ c) (hL : Strs w w.heap.size A L) (hn : n ≤ 8796093022208) (hz : ∀ x ∈ L, x.size ≤ 140737488351232) :
    Calls Try.prog 53 #[.slice A n c] w (VPost (.string (linkAt L n)) w) := by
  rcases List.eq_nil_or_concat L with rfl | ⟨K, s, rfl⟩
  · simp at hl
    subst hl
    exact lastLink_nil A c w
  · rw [List.concat_eq_append] at *
    have hk : n = K.length + 1 := by simpa using hl.symm
    subst hk
    rw [linkAt_snoc]
    exact lastLink_snoc K.length A c K s w rfl hcap hL hn hz
theorem without_any (n : Nat) (A : Option Addr) (c : Nat) (L : List ByteArray) (B : Nat) (w : World) (hl : L.length = n) (hcap : n ≤ c) (hL : Strs w B A L) (hn : n ≤ 8796093022208) :
    Calls Try.prog 54 #[.slice A n c] w (fun e w' => ∃ A2 c2, e = .returned (.slice A2 (n - 1) c2) ∧ n - 1 ≤ c2 ∧ Strs w B A2 L.dropLast ∧ w = w') := by
  rcases List.eq_nil_or_concat L with rfl | ⟨K, s, rfl⟩
  · simp at hl
    subst hl
    refine (without_nil A c w).mono ?_
    rintro e w' ⟨rfl, rfl⟩
    exact ⟨none, 0, rfl, Nat.le_refl _, fun h => by simp at h, rfl⟩
  · rw [List.concat_eq_append] at *
    have hk : n = K.length + 1 := by simpa using hl.symm
    subst hk
    obtain ⟨b, o, rfl, _, _, hK⟩ := Strs.last hL
    refine (without_snoc K.length ⟨b, o, none⟩ c w hcap hn).mono ?_
    rintro e w' ⟨rfl, rfl⟩
    refine ⟨_, _, rfl, by omega, ?_, rfl⟩
    rw [List.dropLast_concat]
    exact hK

def CPost3 (r : ByteArray × ByteArray × Bool) (w : World) (e : Ending) (w' : World) : Prop := e = .returned (.tuple #[.string r.1, .string r.2.1, .bool r.2.2]) ∧ Below w.heap.size w w'

set_option maxHeartbeats 2000000 in
theorem collideOf_any : ∀ (f n m : Nat) (A : Option Addr) (c : Nat) (L : List ByteArray) (A' : Option Addr) (c' : Nat) (L' : List ByteArray) (w : World), max n m = f → L.length = n → L'.length = m → n ≤ c → m ≤ c' →
    Strs w w.heap.size A L → n ≤ 8796093022208 → (∀ s ∈ L, s.size ≤ 140737488351232) → Strs w w.heap.size A' L' → m ≤ 8796093022208 → (∀ s ∈ L', s.size ≤ 140737488351232) →
    Calls Try.prog 23 #[.slice A n c, .slice A' m c'] w (CPost3 (colR f L L') w) := by
  intro f
  induction f with
  | zero =>
    intro n m A c L A' c' L' w hf hl hl' _ _ _ _ _ _ _ _
    obtain rfl : n = 0 := by omega
    obtain rfl : m = 0 := by omega
    go_enter Try.func23, Try.ntmps23
    go_wp2_with fail
    exact bodyPost_ret (v := .tuple #[.string ⟨#[]⟩, .string ⟨#[]⟩, .bool false]) (by simp [results, Try.results23, go_sem]) rfl ⟨rfl, (Below.refl _ _)⟩
  | succ f ih =>
    intro n m A c L A' c' L' w hf hl hl' hc hc' hL hn hz hL' hn' hz'
    have hz1 := linkAt_size L n hz
    have hz2 := linkAt_size L' m hz'
    have hcol : colR (f + 1) L L' = colR (f + 1) L L' := rfl
    conv at hcol => rhs; unfold colR
    rw [hl, hl'] at hcol
    have IH := Lib.hid ih; clear ih
    have C1 := Lib.hid (fun w' (hb : Below w.heap.size w w') => lastLink_any n A c L w' hl hc ((hL.below hb).more hb.size) hn hz)
    have C2 := Lib.hid (fun w' (hb : Below w.heap.size w w') => lastLink_any m A' c' L' w' hl' hc' ((hL'.below hb).more hb.size) hn' hz')
    have D1 := Lib.hid (fun w' (hb : Below w.heap.size w w') => without_any n A c L w.heap.size w' hl hc (hL.below hb) hn)
    have D2 := Lib.hid (fun w' (hb : Below w.heap.size w w') => without_any m A' c' L' w.heap.size w' hl' hc' (hL'.below hb) hn')
    generalize colR (f + 1) L L' = res at hcol ⊢
    generalize linkAt L n = s at hz1 hcol C1
    generalize linkAt L' m = t at hz2 hcol C2
    have HC := Lib.hid hcol; clear hcol
    have HF := Lib.hid hf
    by_cases h0 : n = 0
    · have hb0 : ((n : Int) == 0) = true := by simp [h0]
      have hb1 : ((m : Int) == 0) = false := by simp; omega
      clear hf h0
      go_enter Try.func23, Try.ntmps23
      go_wp2_with fail
      refine (C1.out w (Below.refl _ _)).mono ?_
      rintro e w1 ⟨rfl, hb1⟩
      go_wp2_with fail
      refine (C2.out w1 hb1).mono ?_
      rintro e w2 ⟨rfl, hb2⟩
      have hW := hb1.trans (hb2.mono hb1.size)
      have hcf := HC.out
      clear HC
      by_cases hst : s = t
      · rw [if_pos hst] at hcf
        subst hst
        have HC := Lib.hid hcf; clear hcf
        go_wp2_with fail
        refine (D1.out w2 hW).mono ?_
        rintro e w3 ⟨A2, c2, rfl, hc2, hS2, rfl⟩
        go_wp2_with fail
        refine (D2.out w2 hW).mono ?_
        rintro e w3 ⟨A3, c3, rfl, hc3, hS3, rfl⟩
        have hf := HF.out
        have hx : max (n - 1) (m - 1) = f := by omega
        have hI := IH.out (n - 1) (m - 1) A2 c2 L.dropLast A3 c3 L'.dropLast w2 hx (by simp; omega) (by simp; omega) hc2 hc3 (hS2.more hW.size) (by omega) (fun s h => hz s ((List.dropLast_sublist _).mem h)) (hS3.more hW.size) (by omega) (fun s h => hz' s ((List.dropLast_sublist _).mem h))
        have hcf := HC.out
        rw [← hcf] at hI
        clear hcf HC hf hx IH hS2 hS3 C1 C2 D1 D2 hL hL'
        go_wp2_with fail
        refine hI.mono ?_
        rintro e w4 ⟨rfl, hb4⟩
        go_wp2_with fail
        exact bodyPost_ret (v := .tuple #[.string res.1, .string res.2.1, .bool res.2.2]) (by simp [results, Try.results23, go_sem]) rfl ⟨rfl, hW.trans (hb4.mono hW.size)⟩
      · rw [if_neg hst] at hcf
        have HC := Lib.hid hcf; clear hcf
        have hq : (s.toList == t.toList) = false := ne_toList hst
        go_wp2_with fail
        refine (hashOf_any s _ (by omega)).mono ?_
        rintro e w5 ⟨rfl, rfl⟩
        go_wp2_with fail
        refine (hashOf_any t _ (by omega)).mono ?_
        rintro e w6 ⟨rfl, rfl⟩
        have hcf := HC.out
        generalize fnv s.data.toList = x at hcf ⊢
        generalize fnv t.data.toList = y at hcf ⊢
        by_cases hxy : x = y
        · rw [if_pos hxy] at hcf
          subst hxy
          have HC := Lib.hid hcf; clear hcf
          go_wp2_with fail
          exact bodyPost_ret (v := .tuple #[.string s, .string t, .bool true]) (by simp [results, Try.results23, go_sem]) rfl ⟨by rw [HC.out], hW⟩
        · rw [if_neg hxy] at hcf
          have HC := Lib.hid hcf; clear hcf
          go_wp2_with fail
          exact bodyPost_ret (v := .tuple #[.string ⟨#[]⟩, .string ⟨#[]⟩, .bool false]) (by simp [results, Try.results23, go_sem]) rfl ⟨by rw [HC.out], hW⟩
    · have hb0 : ((n : Int) == 0) = false := by simp [h0]
      clear hf h0
      go_enter Try.func23, Try.ntmps23
      go_wp2_with fail
      refine (C1.out w (Below.refl _ _)).mono ?_
      rintro e w1 ⟨rfl, hb1⟩
      go_wp2_with fail
      refine (C2.out w1 hb1).mono ?_
      rintro e w2 ⟨rfl, hb2⟩
      have hW := hb1.trans (hb2.mono hb1.size)
      have hcf := HC.out
      clear HC
      by_cases hst : s = t
      · rw [if_pos hst] at hcf
        subst hst
        have HC := Lib.hid hcf; clear hcf
        go_wp2_with fail
        refine (D1.out w2 hW).mono ?_
        rintro e w3 ⟨A2, c2, rfl, hc2, hS2, rfl⟩
        go_wp2_with fail
        refine (D2.out w2 hW).mono ?_
        rintro e w3 ⟨A3, c3, rfl, hc3, hS3, rfl⟩
        have hf := HF.out
        have hx : max (n - 1) (m - 1) = f := by omega
        have hI := IH.out (n - 1) (m - 1) A2 c2 L.dropLast A3 c3 L'.dropLast w2 hx (by simp; omega) (by simp; omega) hc2 hc3 (hS2.more hW.size) (by omega) (fun s h => hz s ((List.dropLast_sublist _).mem h)) (hS3.more hW.size) (by omega) (fun s h => hz' s ((List.dropLast_sublist _).mem h))
        have hcf := HC.out
        rw [← hcf] at hI
        clear hcf HC hf hx IH hS2 hS3 C1 C2 D1 D2 hL hL'
        go_wp2_with fail
        refine hI.mono ?_
        rintro e w4 ⟨rfl, hb4⟩
        go_wp2_with fail
        exact bodyPost_ret (v := .tuple #[.string res.1, .string res.2.1, .bool res.2.2]) (by simp [results, Try.results23, go_sem]) rfl ⟨rfl, hW.trans (hb4.mono hW.size)⟩
      · rw [if_neg hst] at hcf
        have HC := Lib.hid hcf; clear hcf
        have hq : (s.toList == t.toList) = false := ne_toList hst
        go_wp2_with fail
        refine (hashOf_any s _ (by omega)).mono ?_
        rintro e w5 ⟨rfl, rfl⟩
        go_wp2_with fail
        refine (hashOf_any t _ (by omega)).mono ?_
        rintro e w6 ⟨rfl, rfl⟩
        have hcf := HC.out
        generalize fnv s.data.toList = x at hcf ⊢
        generalize fnv t.data.toList = y at hcf ⊢
        by_cases hxy : x = y
        · rw [if_pos hxy] at hcf
          subst hxy
          have HC := Lib.hid hcf; clear hcf
          go_wp2_with fail
          exact bodyPost_ret (v := .tuple #[.string s, .string t, .bool true]) (by simp [results, Try.results23, go_sem]) rfl ⟨by rw [HC.out], hW⟩
        · rw [if_neg hxy] at hcf
          have HC := Lib.hid hcf; clear hcf
          go_wp2_with fail
          exact bodyPost_ret (v := .tuple #[.string ⟨#[]⟩, .string ⟨#[]⟩, .bool false]) (by simp [results, Try.results23, go_sem]) rfl ⟨by rw [HC.out], hW⟩

end Go.Proofs.Ytmcihmcgkhijcaa.ChainE
