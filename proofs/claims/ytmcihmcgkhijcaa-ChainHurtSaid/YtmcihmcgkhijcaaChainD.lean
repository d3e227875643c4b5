/- The walk of chain.Collide. -/
import Derived.Test.YtmcihmcgkhijcaaChainC
namespace Go.Proofs.Ytmcihmcgkhijcaa.ChainD
open Go.RowKit ChainW ChainH ChainR ChainC

theorem ba_ext {s t : ByteArray} (h : s.data.toList = t.data.toList) : s = t := by
  obtain ⟨⟨x⟩⟩ := s
  obtain ⟨⟨y⟩⟩ := t
  simp only at h
  subst h
  rfl
theorem ne_toList {s t : ByteArray} (h : ¬ s = t) : (s.toList == t.toList) = false := by
  rw [ByteArray.toList_eq, ByteArray.toList_eq]
  rw [Bool.eq_false_iff]
  exact fun e => h (ba_ext (eq_of_beq e))
def linkAt (L : List ByteArray) : Nat → ByteArray
  | 0 => ⟨#[]⟩
  | k + 1 => if h : k < L.length then ⟨(link (head (L.take k)) L[k].data.toList).toArray⟩ else ⟨#[]⟩
theorem linkAt_succ (L : List ByteArray) (k : Nat) (h : k < L.length) : linkAt L (k + 1) = ⟨(link (head (L.take k)) L[k].data.toList).toArray⟩ := dif_pos h
theorem linkAt_over (L : List ByteArray) (k : Nat) (h : ¬k < L.length) : linkAt L (k + 1) = ⟨#[]⟩ := dif_neg h
theorem linkAt_size (L : List ByteArray) (k : Nat) (hz : ∀ s ∈ L, s.size ≤ 140737488351232) : (linkAt L k).size ≤ 140737488351240 := by
  cases k with
  | zero => simp [linkAt, ByteArray.size]
  | succ k =>
    by_cases h : k < L.length
    · rw [linkAt_succ L k h, size_mk, link_len, ← Lib.size_eq]
      have := hz L[k] (List.getElem_mem h)
      omega
    · rw [linkAt_over L k h]; simp [ByteArray.size]
/-- Collide's answer from what is left of the two chains. -/
def colF (a b : List ByteArray) : Nat → Nat → Nat → ByteArray × ByteArray × Bool
  | 0, _, _ => (⟨#[]⟩, ⟨#[]⟩, false)
  | f + 1, i, j => if linkAt a i = linkAt b j then colF a b f (i - 1) (j - 1)
      else if fnv (linkAt a i).data.toList = fnv (linkAt b j).data.toList then (linkAt a i, linkAt b j, true) else (⟨#[]⟩, ⟨#[]⟩, false)

theorem clo_any (w : World) (B : Nat) (A : Option Addr) (c : Nat) (L : List ByteArray) (k gn gh gb : Nat) (hv : Value) (h : Cl w B A c L k gn gh gb hv) (hk : k ≤ L.length)
    (hL : Strs w B A L) (hgn : B ≤ gn) (hn : L.length ≤ 8796093022208) (hz : ∀ s ∈ L, s.size ≤ 140737488351232) :
    Calls Try.prog 80 #[.pointer (some ⟨gn, 0, none⟩), .pointer (some ⟨gh, 0, none⟩), .pointer (some ⟨gb, 0, none⟩)] w
      (fun e w' => CPost (.string (linkAt L k)) gn w e w' ∧ Blk w' gn 3 (.int .i64 ((k - 1 : Nat) : Int))) := by
  cases k with
  | zero =>
    refine (clo_zero w B A c L gn gh gb hv h).mono ?_
    rintro e w' ⟨rfl, rfl⟩
    exact ⟨⟨rfl, rfl, rfl, rfl, Nat.le_refl _, fun _ _ _ => rfl⟩, h.n⟩
  | succ k =>
    have hlt := h.n.lt
    refine (clo_succ w B A c L k gn gh gb hv h hk (hL.more (by omega)) ?_ hn hz).mono ?_
    · intro a ha
      obtain ⟨b, o, e, hb, _⟩ := hL (by omega)
      rw [e] at ha
      cases ha
      show b ≠ gn
      omega
    · rintro e w' ⟨h1, h2⟩
      refine ⟨?_, h2⟩
      rw [linkAt_succ L k (by omega)]
      exact h1
theorem cl_next {w w' : World} {B : Nat} {A : Option Addr} {c : Nat} {L : List ByteArray} {k gn gh gb : Nat} {hv : Value} (h : Cl w B A c L k gn gh gb hv) (hg : w.grownBy w' (some gn)) (h' : Blk w' gn 3 (.int .i64 ((k - 1 : Nat) : Int))) (ho : hv.ownBlock ≠ some gn) :
    Cl w' B A c L (k - 1) gn gh gb hv :=
  ⟨h', h.h.grown hg (fun e => h.n.ne h.h (by decide) (by injection e with e; exact e.symm)), h.l.grown hg (fun e => h.n.ne h.l (by decide) (by injection e with e; exact e.symm)), h.own.kept hg (.inr ho)⟩
theorem cl_own_ne {w : World} {B : Nat} {A : Option Addr} {c : Nat} {L : List ByteArray} {k gn gh gb : Nat} {hv : Value} (h : Cl w B A c L k gn gh gb hv) : hv.ownBlock ≠ some gn := by
  obtain ⟨g, cap, rfl⟩ := ownsRow_succ h.own
  intro e
  have hg : g = gn := by injection e
  subst hg
  rcases h.own.2 with ⟨e, _⟩ | ⟨g', cap', cur, e, _, hh', _⟩
  · cases e
  · cases e
    have := h.n
    unfold Blk at this
    rw [this] at hh'
    injection hh' with hh'
    injection hh' with _ ht
    exact absurd ht (by decide)

structure Inv (w wr : World) (A : Option Addr) (c : Nat) (L : List ByteArray) (A' : Option Addr) (c' : Nat) (L' : List ByteArray) (m gn gh gb gn' gh' gb' : Nat) (hv hv' : Value) (k k' : Nat) : Prop where
  a : Cl wr w.heap.size A c L k gn gh gb hv
  b : Cl wr m A' c' L' k' gn' gh' gb' hv'
  below : Below w.heap.size w wr

set_option maxHeartbeats 2000000 in
theorem collide_any (A : Option Addr) (c : Nat) (L : List ByteArray) (A' : Option Addr) (c' : Nat) (L' : List ByteArray) (w : World) (hL : Strs w w.heap.size A L) (hn : L.length ≤ 8796093022208) (hz : ∀ s ∈ L, s.size ≤ 140737488351232)
    (hL' : Strs w w.heap.size A' L') (hn' : L'.length ≤ 8796093022208) (hz' : ∀ s ∈ L', s.size ≤ 140737488351232) :
    Calls Try.prog 22 #[.slice A L.length c, .slice A' L'.length c'] w fun e w' => ∃ r, r = colF L L' (max L.length L'.length) L.length L'.length ∧ e = .returned (.tuple #[.string r.1, .string r.2.1, .bool r.2.2]) ∧ Below w.heap.size w w' := by
  generalize hres : colF L L' (max L.length L'.length) L.length L'.length = res
  have HR0 := Lib.hid hres; clear hres
  go_enter Try.func22, Try.ntmps22
  go_wp2_with fail
  refine (back_any A c L w hL hn hz).mono ?_
  rintro e w1 ⟨gn, gh, gb, hv, rfl, hcl, hgn, hgh, hgb, hb1⟩
  go_wp2_with fail
  have hs1 := hb1.size
  refine (back_any A' c' L' w1 ((hL'.below hb1).more hb1.size) hn' hz').mono ?_
  rintro e w2 ⟨gn', gh', gb', hv', rfl, hcl', hgn', hgh', hgb', hb2⟩
  have l1 := hcl.n.lt
  have l2 := hcl.h.lt
  have l3 := hcl.l.lt
  have o1 : ∀ j, hv.ownBlock = some j → j < w1.heap.size := fun j e => (hcl.own.lt j e).2
  have o2 : ∀ j, hv'.ownBlock = some j → w1.heap.size ≤ j := fun j e => (hcl'.own.lt j e).1
  have hI : Inv w w2 A c L A' c' L' w1.heap.size gn gh gb gn' gh' gb' hv hv' L.length L'.length :=
    ⟨⟨hcl.n.below hb2, hcl.h.below hb2, hcl.l.below hb2, own_below hcl.own hb2⟩, hcl', hb1.trans (hb2.mono hs1)⟩
  clear hcl hcl' hb1 hb2
  have hmx : L.length ≤ max L.length L'.length := Nat.le_max_left _ _
  have hmy : L'.length ≤ max L.length L'.length := Nat.le_max_right _ _
  have hmm : max L.length L'.length ≤ 8796093022208 := Nat.max_le.2 ⟨hn, hn'⟩
  have hm1 : L.length < L'.length → max L.length L'.length = L'.length := fun h => by omega
  have hm2 : ¬ L.length < L'.length → max L.length L'.length = L.length := fun h => by omega
  have hres := HR0.out; clear HR0
  generalize max L.length L'.length = M at hmx hmy hmm hm1 hm2 hres
  have HR := Lib.hid hres; clear hres
  by_cases hcm : L.length < L'.length
  · have hM := hm1 hcm; clear hm1 hm2
    have hMM := Lib.hid hM; clear hM
    go_wp2_with fail
    go_loopw [20] (fun i wr => ∃ r : Nat, r ≤ M ∧ i = .int .i64 r ∧ Inv w wr A c L A' c' L' w1.heap.size gn gh gb gn' gh' gb' hv hv' (L.length - r) (L'.length - r) ∧ colF L L' (M - r) (L.length - r) (L'.length - r) = res) (fun i _ => M - (intOf i).toNat)
    case atStart => exact ⟨0, Nat.zero_le _, rfl, hI, HR.out⟩
    case round =>
      obtain ⟨r, hr, rfl, hJ, hcol⟩ := hrel
      have HC := Lib.hid hcol; clear hcol HR hI
      by_cases hlt : r < M
      · have hlt' : r < L'.length := by have := hMM.out; omega
        go_wp2_with fail
        refine (clo_any wr w.heap.size A c L (L.length - r) gn gh gb hv hJ.a (Nat.sub_le _ _) (hL.below hJ.below) hgn hn hz).mono ?_
        rintro e w3 ⟨⟨rfl, hg3⟩, hn3⟩
        have hA := cl_next hJ.a hg3 hn3 (cl_own_ne hJ.a)
        have hB := hJ.b.grown hg3 (by simp; omega) (by simp; omega) (by simp; omega) (by
          rcases hv2 : hv'.ownBlock with _ | q
          · exact .inl rfl
          · exact .inr (by simp; have := o2 q hv2; omega))
        have hW := hJ.below.grown hg3 hJ.below.size (fun k e => by cases e; exact hgn)
        clear hJ hg3 hn3
        go_wp2_with fail
        refine (clo_any w3 w1.heap.size A' c' L' (L'.length - r) gn' gh' gb' hv' hB (Nat.sub_le _ _) ((hL'.below hW).more hs1) hgn' hn' hz').mono ?_
        rintro e w4 ⟨⟨rfl, hg4⟩, hn4⟩
        have hB2 := cl_next hB hg4 hn4 (cl_own_ne hB)
        have hA2 := hA.grown hg4 (by simp; omega) (by simp; omega) (by simp; omega) (by
          rcases hv2 : hv.ownBlock with _ | q
          · exact .inl rfl
          · exact .inr (by simp; have := o1 q hv2; omega))
        have hW2 := hW.grown hg4 hW.size (fun k e => by cases e; omega)
        clear hA hB hW hg4 hn4
        have hz1 := linkAt_size L (L.length - r) hz
        have hz2 := linkAt_size L' (L'.length - r) hz'
        have hstep : M - r = (M - (r + 1)) + 1 := by omega
        have hcf := HC.out
        rw [hstep] at hcf
        unfold colF at hcf
        clear HC hstep
        generalize linkAt L (L.length - r) = s at hz1 hcf ⊢
        generalize linkAt L' (L'.length - r) = t at hz2 hcf ⊢
        by_cases hst : s = t
        · rw [if_pos hst] at hcf
          subst hst
          have HC := Lib.hid hcf; clear hcf
          go_wp2_with fail
          go_roundw
          case rel => exact ⟨r + 1, by omega, by go_num, ⟨hA2, hB2, hW2⟩, HC.out⟩
          case measure => simp [intOf]; omega
        · rw [if_neg hst] at hcf
          have HC := Lib.hid hcf; clear hcf
          have hq : (s.toList == t.toList) = false := ne_toList hst
          go_wp2_with fail
          refine (hash_any s _ (by omega)).mono ?_
          rintro e w5 ⟨rfl, hb5⟩
          go_wp2_with fail
          refine (hash_any t _ (by omega)).mono ?_
          rintro e w6 ⟨rfl, hb6⟩
          have hW6 := (hW2.trans (hb5.mono hW2.size)).trans (hb6.mono (Nat.le_trans hW2.size hb5.size))
          have hcf := HC.out
          generalize fnv s.data.toList = x at hcf ⊢
          generalize fnv t.data.toList = y at hcf ⊢
          by_cases hxy : x = y
          · rw [if_pos hxy] at hcf
            subst hxy
            have HC := Lib.hid hcf; clear hcf
            go_wp2_with fail
            exact bodyPost_ret (v := .tuple #[.string s, .string t, .bool true]) (by simp [results, Try.results22, go_sem]) rfl ⟨_, rfl, by rw [← HC.out], hW6⟩
          · rw [if_neg hxy] at hcf
            have HC := Lib.hid hcf; clear hcf
            go_wp2_with fail
            exact bodyPost_ret (v := .tuple #[.string ⟨#[]⟩, .string ⟨#[]⟩, .bool false]) (by simp [results, Try.results22, go_sem]) rfl ⟨_, rfl, by rw [← HC.out], hW6⟩
      · have hlt' : ¬ r < L'.length := by have := hMM.out; omega
        obtain rfl : r = M := by omega
        have hcf := HC.out
        rw [Nat.sub_self] at hcf
        unfold colF at hcf
        have HC := Lib.hid hcf; clear hcf
        go_wp2_with fail
        exact bodyPost_ret (v := .tuple #[.string ⟨#[]⟩, .string ⟨#[]⟩, .bool false]) (by simp [results, Try.results22, go_sem]) rfl ⟨_, rfl, by rw [← HC.out], hJ.below⟩
  · have hM := hm2 hcm; clear hm1 hm2
    have hMM := Lib.hid hM; clear hM
    go_wp2_with fail
    go_loopw [20] (fun i wr => ∃ r : Nat, r ≤ M ∧ i = .int .i64 r ∧ Inv w wr A c L A' c' L' w1.heap.size gn gh gb gn' gh' gb' hv hv' (L.length - r) (L'.length - r) ∧ colF L L' (M - r) (L.length - r) (L'.length - r) = res) (fun i _ => M - (intOf i).toNat)
    case atStart => exact ⟨0, Nat.zero_le _, rfl, hI, HR.out⟩
    case round =>
      obtain ⟨r, hr, rfl, hJ, hcol⟩ := hrel
      have HC := Lib.hid hcol; clear hcol HR hI
      by_cases hlt : r < M
      · have hlt' : r < L.length := by have := hMM.out; omega
        go_wp2_with fail
        refine (clo_any wr w.heap.size A c L (L.length - r) gn gh gb hv hJ.a (Nat.sub_le _ _) (hL.below hJ.below) hgn hn hz).mono ?_
        rintro e w3 ⟨⟨rfl, hg3⟩, hn3⟩
        have hA := cl_next hJ.a hg3 hn3 (cl_own_ne hJ.a)
        have hB := hJ.b.grown hg3 (by simp; omega) (by simp; omega) (by simp; omega) (by
          rcases hv2 : hv'.ownBlock with _ | q
          · exact .inl rfl
          · exact .inr (by simp; have := o2 q hv2; omega))
        have hW := hJ.below.grown hg3 hJ.below.size (fun k e => by cases e; exact hgn)
        clear hJ hg3 hn3
        go_wp2_with fail
        refine (clo_any w3 w1.heap.size A' c' L' (L'.length - r) gn' gh' gb' hv' hB (Nat.sub_le _ _) ((hL'.below hW).more hs1) hgn' hn' hz').mono ?_
        rintro e w4 ⟨⟨rfl, hg4⟩, hn4⟩
        have hB2 := cl_next hB hg4 hn4 (cl_own_ne hB)
        have hA2 := hA.grown hg4 (by simp; omega) (by simp; omega) (by simp; omega) (by
          rcases hv2 : hv.ownBlock with _ | q
          · exact .inl rfl
          · exact .inr (by simp; have := o1 q hv2; omega))
        have hW2 := hW.grown hg4 hW.size (fun k e => by cases e; omega)
        clear hA hB hW hg4 hn4
        have hz1 := linkAt_size L (L.length - r) hz
        have hz2 := linkAt_size L' (L'.length - r) hz'
        have hstep : M - r = (M - (r + 1)) + 1 := by omega
        have hcf := HC.out
        rw [hstep] at hcf
        unfold colF at hcf
        clear HC hstep
        generalize linkAt L (L.length - r) = s at hz1 hcf ⊢
        generalize linkAt L' (L'.length - r) = t at hz2 hcf ⊢
        by_cases hst : s = t
        · rw [if_pos hst] at hcf
          subst hst
          have HC := Lib.hid hcf; clear hcf
          go_wp2_with fail
          go_roundw
          case rel => exact ⟨r + 1, by omega, by go_num, ⟨hA2, hB2, hW2⟩, HC.out⟩
          case measure => simp [intOf]; omega
        · rw [if_neg hst] at hcf
          have HC := Lib.hid hcf; clear hcf
          have hq : (s.toList == t.toList) = false := ne_toList hst
          go_wp2_with fail
          refine (hash_any s _ (by omega)).mono ?_
          rintro e w5 ⟨rfl, hb5⟩
          go_wp2_with fail
          refine (hash_any t _ (by omega)).mono ?_
          rintro e w6 ⟨rfl, hb6⟩
          have hW6 := (hW2.trans (hb5.mono hW2.size)).trans (hb6.mono (Nat.le_trans hW2.size hb5.size))
          have hcf := HC.out
          generalize fnv s.data.toList = x at hcf ⊢
          generalize fnv t.data.toList = y at hcf ⊢
          by_cases hxy : x = y
          · rw [if_pos hxy] at hcf
            subst hxy
            have HC := Lib.hid hcf; clear hcf
            go_wp2_with fail
            exact bodyPost_ret (v := .tuple #[.string s, .string t, .bool true]) (by simp [results, Try.results22, go_sem]) rfl ⟨_, rfl, by rw [← HC.out], hW6⟩
          · rw [if_neg hxy] at hcf
            have HC := Lib.hid hcf; clear hcf
            go_wp2_with fail
            exact bodyPost_ret (v := .tuple #[.string ⟨#[]⟩, .string ⟨#[]⟩, .bool false]) (by simp [results, Try.results22, go_sem]) rfl ⟨_, rfl, by rw [← HC.out], hW6⟩
      · have hlt' : ¬ r < L.length := by have := hMM.out; omega
        obtain rfl : r = M := by omega
        have hcf := HC.out
        rw [Nat.sub_self] at hcf
        unfold colF at hcf
        have HC := Lib.hid hcf; clear hcf
        go_wp2_with fail
        exact bodyPost_ret (v := .tuple #[.string ⟨#[]⟩, .string ⟨#[]⟩, .bool false]) (by simp [results, Try.results22, go_sem]) rfl ⟨_, rfl, by rw [← HC.out], hJ.below⟩
end Go.Proofs.Ytmcihmcgkhijcaa.ChainD
