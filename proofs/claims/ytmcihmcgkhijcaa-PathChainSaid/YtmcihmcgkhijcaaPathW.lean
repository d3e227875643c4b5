/- The walks of package path and of its references: what each function returns, as plain functions on lists of bytes. -/
import Derived.Test.YtmcihmcgkhijcaaShelf
import Derived.WalkKit
import Derived.WalkLawsBesides
import Derived.WalkSpells
import Derived.Lib.Hide
import Derived.Deep.QuietTactic
import Derived.BigQuiet
import Derived.Outline
namespace Go.Proofs.Ytmcihmcgkhijcaa.PathW
open Go.RowKit

theorem ret_str {a b : List UInt8} (h : a = b) : Ending.returned (.string ⟨a.toArray⟩) = .returned (.string ⟨b.toArray⟩) := by rw [h]
theorem ret_strb {a : ByteArray} {b : List UInt8} (h : a.data.toList = b) : Ending.returned (.string a) = .returned (.string ⟨b.toArray⟩) := by subst h; rfl
theorem ret_bool {a b : Bool} (h : a = b) : Ending.returned (.bool a) = .returned (.bool b) := by rw [h]

theorem if_ff {α : Type} {b : Bool} {x y : α} (h : b = false) : (if b = true then x else y) = y := by rw [h]; rfl

theorem last_any (s : ByteArray) (w : World) (hs : s.size ≤ 9223372036854775807) :
    Calls Try.prog 49 #[.string s, .int .u8 47] w fun e w' => e = .returned (.int .i64 (Lib.Pa.lastIndexByte s.data.toList 47)) ∧ w' = w := by
  go_enter Try.func49, Try.ntmps49
  go_wp2_with fail
  refine (Try.bytealg_LastIndexByteString s 47 _ hs).mono ?_
  rintro e w' ⟨rfl, rfl⟩
  go_wp2
  go_ret
  exact ⟨rfl, rfl⟩

def dflt (l : List UInt8) : List UInt8 := if Lib.Pa.lastIndexByte l 47 ≤ 0 ∨ l.head? ≠ some 47 then [47] else l.take (Lib.Pa.lastIndexByte l 47).toNat

theorem head_eq (s : ByteArray) (h : 0 < s.size) : s.data.toList.head? = some (s[0]'h) := by
  rw [List.head?_eq_getElem?]; exact Lib.Pa.at_eq s 0 h

set_option maxHeartbeats 400000 in
theorem default_any (s : ByteArray) (w : World) (hs : s.size ≤ 9223372036854775807) :
    Calls Try.prog 18 #[.string s] w fun e w' => e = .returned (.string ⟨(dflt s.data.toList).toArray⟩) ∧ w' = w := by
  have hb := Lib.Pa.lastIndexByte_bounds s.data.toList 47
  rw [← Lib.size_eq] at hb
  by_cases h : Lib.Pa.lastIndexByte s.data.toList 47 ≤ 0
  · have hd : dflt s.data.toList = [47] := if_pos (.inl h)
    have H := Lib.hid hd; clear hd
    go_enter Try.func18, Try.ntmps18
    go_wp2_with (go_at_call 49; refine (last_any _ _ hs).mono ?_; rintro e w' ⟨rfl, rfl⟩)
    go_ret
    exact ⟨ret_str H.out.symm, rfl⟩
  · have h0 : 0 < s.size := by omega
    by_cases h1 : s[0] = 47
    · have hd : dflt s.data.toList = s.data.toList.take (Lib.Pa.lastIndexByte s.data.toList 47).toNat := if_neg (by rw [head_eq s h0, h1]; simp; omega)
      have H := Lib.hid hd; clear hd
      have H1 := Lib.hid h1; clear h1
      have hb1 : ((s[0].toNat : Int) != 47) = false := by rw [H1.out]; rfl
      go_enter Try.func18, Try.ntmps18
      go_wp2_with (go_at_call 49; refine (last_any _ _ hs).mono ?_; rintro e w' ⟨rfl, rfl⟩)
      go_ret
      exact ⟨ret_strb (by rw [H.out, Lib.extract_data]; simp), rfl⟩
    · have hd : dflt s.data.toList = [47] := if_pos (.inr (by rw [head_eq s h0]; simpa using h1))
      have H := Lib.hid hd; clear hd
      have hb1 : ((s[0].toNat : Int) != 47) = true := by rw [Lib.Pa.bne47]; simpa using h1
      go_enter Try.func18, Try.ntmps18
      go_wp2_with (go_at_call 49; refine (last_any _ _ hs).mono ?_; rintro e w' ⟨rfl, rfl⟩)
      go_ret
      exact ⟨ret_str H.out.symm, rfl⟩

def mtch (p o : List UInt8) : Bool := Lib.hasPrefix p o && (p.length == o.length || (Lib.hasSuffix o [47] || p[o.length]? == some 47))

theorem trim_eq {p o : List UInt8} (h : (!Lib.hasPrefix p o) = false) : Lib.trimPrefix p o = p.drop o.length := if_pos (by simpa using h)
theorem mtch_no {p o : List UInt8} (h : (!Lib.hasPrefix p o) = true) : mtch p o = false := by unfold mtch; rw [show Lib.hasPrefix p o = false from by simpa using h]; rfl
theorem mtch_all {p o : List UInt8} (h : (!Lib.hasPrefix p o) = false) (h2 : (Lib.trimPrefix p o).isEmpty = true) : mtch p o = true := by
  have hp : Lib.hasPrefix p o = true := by simpa using h
  rw [trim_eq h] at h2
  have hl : p.length ≤ o.length := by simpa using h2
  have hl2 : o.length ≤ p.length := (List.isPrefixOf_iff_prefix.1 hp).length_le
  unfold mtch
  rw [hp, show (p.length == o.length) = true from by simp; omega]; rfl
theorem mtch_suf {p o : List UInt8} (h : (!Lib.hasPrefix p o) = false) (h2 : Lib.hasSuffix o [47] = true) : mtch p o = true := by
  unfold mtch
  rw [h2, show Lib.hasPrefix p o = true from by simpa using h]; simp
theorem mtch_at {p o : List UInt8} (h : (!Lib.hasPrefix p o) = false) (h2 : (Lib.trimPrefix p o).isEmpty = false) (h3 : ¬ Lib.hasSuffix o [47] = true) : mtch p o = (p[o.length]? == some 47) := by
  rw [trim_eq h] at h2
  have hl : o.length < p.length := by simpa using h2
  unfold mtch
  rw [show Lib.hasPrefix p o = true from by simpa using h, show Lib.hasSuffix o [47] = false from by simpa using h3, show (p.length == o.length) = false from by simp; omega]; simp
theorem ne_len {l : List UInt8} (h : l.isEmpty = false) : 0 < l.length := by cases l <;> simp_all
theorem at_drop (p o : ByteArray) (h : (!Lib.hasPrefix p.data.toList o.data.toList) = false) (h0 : 0 < (⟨(Lib.trimPrefix p.data.toList o.data.toList).toArray⟩ : ByteArray).size) :
    ((((⟨(Lib.trimPrefix p.data.toList o.data.toList).toArray⟩ : ByteArray)[0]'h0).toNat : Int) == 47) = (p.data.toList[o.data.toList.length]? == some 47) := by
  have e : p.data.toList[o.data.toList.length]? = some ((⟨(Lib.trimPrefix p.data.toList o.data.toList).toArray⟩ : ByteArray)[0]'h0) := by
    rw [← Lib.Pa.at_eq _ 0 h0]
    show _ = (Lib.trimPrefix p.data.toList o.data.toList)[0]?
    rw [trim_eq h, List.getElem?_drop]; rfl
  rw [Lib.Pa.beq47, e]; rfl

set_option maxHeartbeats 400000 in
theorem match_any (p o : ByteArray) (w : World) (ho : o.size ≤ 9223372036854775807) :
    Calls Try.prog 20 #[.string p, .string o] w fun e w' => e = .returned (.bool (mtch p.data.toList o.data.toList)) ∧ w' = w := by
  go_enter Try.func20, Try.ntmps20
  go_wp2_with (first | (go_at_call 50; refine (Try.strings_CutPrefix _ _ _).mono ?_; rintro e w' ⟨rfl, rfl⟩) | (go_at_call 51; refine (Try.strings_HasSuffix _ _ _ ho).mono ?_; rintro e w' ⟨rfl, rfl⟩))
  · go_ret
    exact ⟨ret_bool (mtch_no ‹_›).symm, rfl⟩
  · go_ret
    exact ⟨ret_bool (mtch_all ‹_› ‹_›).symm, rfl⟩
  · go_ret
    exact ⟨ret_bool (mtch_suf ‹_› ‹_›).symm, rfl⟩
  · go_ret
    refine ⟨ret_bool ?_, rfl⟩
    rw [mtch_at ‹_› ‹_› ‹_›]
    exact at_drop p o ‹_› _
  · exact absurd (ne_len ‹_›) ‹_›

theorem suf_last (o : ByteArray) (h : 0 < o.size) : Lib.hasSuffix o.data.toList [47] = (((o[o.size - 1]'(by omega)).toNat : Int) == 47) := by
  rw [Lib.Pa.beq47, ← Lib.hasSuffix_of_drop]
  have hl := Lib.size_eq o
  have e : o.data.toList.drop (o.data.toList.length - [(47 : UInt8)].length) = [o[o.size - 1]'(by omega)] := by
    have hat := Lib.Pa.at_eq o (o.size - 1) (by omega)
    rw [← hl]
    obtain ⟨hi, he⟩ := List.getElem?_eq_some_iff.1 hat
    rw [show o.size - [(47 : UInt8)].length = o.size - 1 from rfl, List.drop_eq_getElem_cons hi, he, List.drop_eq_nil_of_le (by omega)]
  rw [e, decide_eq_true (by rw [← hl]; exact h)]
  simp
theorem suf_none (o : ByteArray) (h : ¬ 0 < o.size) : Lib.hasSuffix o.data.toList [47] = false := by
  rw [Lib.Pa.nil_of_size o h]; rfl

theorem mtch_mid {p o : ByteArray} (h : Lib.hasPrefix p.data.toList o.data.toList = true) (hlt : o.size < p.size) : mtch p.data.toList o.data.toList = (Lib.hasSuffix o.data.toList [47] || ((p[o.size]'hlt).toNat : Int) == 47) := by
  unfold mtch
  rw [h, Lib.Pa.beq47, ← Lib.size_eq, ← Lib.size_eq, Lib.Pa.at_eq p o.size hlt, show (p.size == o.size) = false from by simp; omega]
  simp

set_option maxHeartbeats 400000 in
theorem pathMatch_any (p o : ByteArray) (w : World) (_hp : p.size ≤ 9223372036854775807) (_ho : o.size ≤ 9223372036854775807) :
    Calls Try.prog 21 #[.string p, .string o] w fun e w' => e = .returned (.bool (mtch p.data.toList o.data.toList)) ∧ w' = w := by
  by_cases hle : o.size ≤ p.size
  · have hraw := Lib.hasPrefix_raw p o
    rw [decide_eq_true hle, Bool.true_and] at hraw
    by_cases hpre : ((p.extract 0 o.size).toList == o.toList) = true
    · have hpx : Lib.hasPrefix p.data.toList o.data.toList = true := hraw ▸ hpre
      have hpre' : (!(p.extract 0 o.size).toList == o.toList) = false := by rw [hpre]; rfl
      clear hraw hpre
      by_cases he : o.size = p.size
      · have hm : mtch p.data.toList o.data.toList = true := by unfold mtch; rw [hpx, ← Lib.size_eq, ← Lib.size_eq, he]; simp
        have H := Lib.hid hm; clear hm hpx
        have hz : ((o.size : Int) == (p.size : Int)) = true := by rw [he]; simp
        have HE := Lib.hid he; clear he
        go_enter Try.func21, Try.ntmps21
        go_wp2
        go_ret
        exact ⟨ret_bool H.out.symm, rfl⟩
      · have hlt : o.size < p.size := by omega
        have hm := mtch_mid hpx hlt
        have hz : ((o.size : Int) == (p.size : Int)) = false := by simp; omega
        by_cases h0 : 0 < o.size
        · rw [suf_last o h0] at hm
          have H := Lib.hid hm; clear hm hpx
          go_enter Try.func21, Try.ntmps21
          go_wp2
          all_goals go_ret
          all_goals refine ⟨ret_bool ?_, rfl⟩
          all_goals rw [H.out]
          all_goals simp [*]
        · rw [suf_none o h0] at hm
          have H := Lib.hid hm; clear hm hpx
          go_enter Try.func21, Try.ntmps21
          go_wp2
          go_ret
          refine ⟨ret_bool ?_, rfl⟩
          rw [H.out]; rfl
    · have hm : mtch p.data.toList o.data.toList = false := mtch_no (by rw [← hraw]; simpa using hpre)
      have H := Lib.hid hm; clear hm hraw
      have hpre' : (!(p.extract 0 o.size).toList == o.toList) = true := by simpa using hpre
      go_enter Try.func21, Try.ntmps21
      go_wp2
      go_ret
      exact ⟨ret_bool H.out.symm, rfl⟩
  · have hm : mtch p.data.toList o.data.toList = false := mtch_no (by rw [← Lib.hasPrefix_raw, decide_eq_false hle]; rfl)
    have H := Lib.hid hm; clear hm
    go_enter Try.func21, Try.ntmps21
    go_wp2
    go_ret
    exact ⟨ret_bool H.out.symm, rfl⟩

/-! DefaultOf -/
def cnt (l : List UInt8) : Nat := (l.filter (· == 47)).length
def lst (l : List UInt8) : Nat := (Lib.Pa.lastIndexByte l 47).toNat
theorem cnt_snoc (l : List UInt8) (c : UInt8) : cnt (l ++ [c]) = cnt l + if (c.toNat : Int) == 47 then 1 else 0 := by
  unfold cnt; rw [List.filter_append, List.length_append, Lib.Pa.beq47, List.filter_cons]
  cases h : c == 47 <;> rfl
theorem last_snoc (l : List UInt8) (c : UInt8) : Lib.Pa.lastIndexByte (l ++ [c]) 47 = if (c.toNat : Int) == 47 then (l.length : Int) else Lib.Pa.lastIndexByte l 47 := by
  rw [Lib.Pa.beq47]
  unfold Lib.Pa.lastIndexByte
  have hk : ∀ k, k ≤ l.length → Lib.Pa.lastIdx (l ++ [c]) 47 k = Lib.Pa.lastIdx l 47 k := by
    intro k; induction k with
    | zero => intro _; rfl
    | succ k ih => intro h; unfold Lib.Pa.lastIdx; rw [List.getElem?_append_left (by omega), ih (by omega)]
  rw [List.length_append]
  show Lib.Pa.lastIdx (l ++ [c]) 47 (l.length + 1) = _
  rw [Lib.Pa.lastIdx, List.getElem?_concat_length, hk _ (Nat.le_refl _)]
  by_cases h : c = 47
  · rw [if_pos (by rw [h]), if_pos (by simpa using h)]
  · rw [if_neg (by simpa using h), if_neg (by simpa using h)]
theorem cnt_pos (l : List UInt8) (h : l.head? = some 47) : (cnt l = 1 ↔ Lib.Pa.lastIndexByte l 47 ≤ 0) := by
  obtain ⟨a, rfl⟩ : ∃ a, l = 47 :: a := by cases l with | nil => cases h | cons x a => injection h with h; subst h; exact ⟨a, rfl⟩
  have hc : cnt (47 :: a) = 1 + cnt a := by unfold cnt; rw [List.filter_cons]; exact Nat.add_comm _ _
  rw [hc]
  have h0 : cnt a = 0 ↔ ∀ x ∈ a, x ≠ 47 := by
    unfold cnt; rw [List.length_eq_zero_iff, List.filter_eq_nil_iff]; simp
  rcases Lib.Pa.lastIndexByte_spec (47 :: a) 47 with ⟨h1, h2⟩ | ⟨i, h1, h2, h3⟩
  · exact absurd rfl (h2 0)
  · rw [h1]
    constructor
    · intro hh
      have hz : cnt a = 0 := by omega
      cases i with
      | zero => simp
      | succ i =>
        rw [List.getElem?_cons_succ] at h2
        exact absurd rfl (h0.1 hz 47 (List.mem_of_getElem? h2))
    · intro hh
      have hi : i = 0 := by omega
      subst hi
      have : cnt a = 0 := h0.2 fun x hx hx' => by
        subst hx'
        obtain ⟨j, hj, hj'⟩ := List.getElem_of_mem hx
        exact h3 (j + 1) (by omega) (by rw [List.getElem?_cons_succ, List.getElem?_eq_getElem hj, hj'])
      omega

theorem take_snoc (s : ByteArray) (k : Nat) (h : k < s.size) : s.data.toList.take (k + 1) = s.data.toList.take k ++ [s[k]] := by
  rw [List.take_succ_eq_append_getElem (by simpa using h)]; rfl

theorem lst_snoc (l : List UInt8) (c : UInt8) : lst (l ++ [c]) = if (c.toNat : Int) == 47 then l.length else lst l := by
  unfold lst; rw [last_snoc]; split <;> simp

set_option maxHeartbeats 400000 in
theorem defaultOf_any (s : ByteArray) (w : World) (hs : s.size ≤ 9223372036854775807) :
    Calls Try.prog 19 #[.string s] w fun e w' => e = .returned (.string ⟨(dflt s.data.toList).toArray⟩) ∧ w' = w := by
  go_enter Try.func19, Try.ntmps19
  go_wp2
  go_loop [3, 4, 5] (fun m t i => ∃ k : Nat, k ≤ s.size ∧ i = .int .i64 k ∧ m = .int .i64 (cnt (s.data.toList.take k)) ∧ t = .int .i64 (lst (s.data.toList.take k))) (fun _ _ i => s.size - (intOf i).toNat)
  case atStart => exact ⟨0, Nat.zero_le _, rfl, rfl, rfl⟩
  case round =>
    obtain ⟨k, hk, rfl, rfl, rfl⟩ := hrel
    have hl : (s.data.toList.take k).length ≤ k := List.length_take_le _ _
    have hcl : cnt (s.data.toList.take k) ≤ k := Nat.le_trans (List.length_filter_le _ _) hl
    have hb := Lib.Pa.lastIndexByte_bounds (s.data.toList.take k) 47
    have hll : lst (s.data.toList.take k) ≤ k := by unfold lst; omega
    by_cases hlt : k < s.size
    · have hc := cnt_snoc (s.data.toList.take k) s[k]
      have hz := lst_snoc (s.data.toList.take k) s[k]
      rw [← take_snoc s k hlt] at hc hz
      rw [List.length_take_of_le (by simp; omega)] at hz
      have HC := Lib.hid hc; have HZ := Lib.hid hz; clear hc hz hb
      go_wp2
      all_goals
        go_round
        case rel => exact ⟨k + 1, by omega, by go_num, by rw [HC.out]; first | (rw [if_pos ‹_›]; go_num) | (rw [if_ff ‹_›]; go_num), by rw [HZ.out]; first | rw [if_pos ‹_›] | rw [if_ff ‹_›]⟩
        case measure => simp [intOf]; omega
    · obtain rfl : k = s.size := by omega
      rw [List.take_of_length_le (by simp)] at hcl hll ⊢
      clear hl hb hlt hk
      by_cases h0 : 0 < s.size
      · have hz : ((s.size : Int) == 0) = false := beq_eq_false_iff_ne.2 (by omega)
        by_cases h1 : s[0] = 47
        · have hb1 : ((s[0].toNat : Int) != 47) = false := by rw [h1]; rfl
          have hc := cnt_pos s.data.toList (by rw [head_eq s h0, h1])
          clear h1
          by_cases hm : cnt s.data.toList = 1
          · have hc1 : ((cnt s.data.toList : Int) == 1) = true := by rw [hm]; rfl
            have hd : dflt s.data.toList = [47] := if_pos (.inl (hc.1 hm))
            have H := Lib.hid hd; clear hd hc hm
            go_wp2
            go_ret
            exact ⟨ret_str H.out.symm, rfl⟩
          · have hc1 : ((cnt s.data.toList : Int) == 1) = false := by simp; omega
            have hd : dflt s.data.toList = s.data.toList.take (lst s.data.toList) := if_neg (by rw [head_eq s h0, ← hc]; have := Lib.Pa.bne47 s[0]; rw [hb1] at this; simp at this; simp [hm, ← this])
            have H := Lib.hid hd; clear hd hc hm
            go_wp2
            go_ret
            exact ⟨ret_strb (by rw [H.out, Lib.extract_data]; simp), rfl⟩
        · have hb1 : ((s[0].toNat : Int) != 47) = true := by rw [Lib.Pa.bne47]; simpa using h1
          have hd : dflt s.data.toList = [47] := if_pos (.inr (by rw [head_eq s h0]; simpa using h1))
          have H := Lib.hid hd; clear hd h1
          go_wp2
          go_ret
          exact ⟨ret_str H.out.symm, rfl⟩
      · have hz : ((s.size : Int) == 0) = true := beq_iff_eq.2 (by omega)
        have hd : dflt s.data.toList = [47] := if_pos (.inr (by rw [Lib.Pa.nil_of_size s h0]; simp))
        have H := Lib.hid hd; clear hd h0
        go_wp2
        go_ret
        exact ⟨ret_str H.out.symm, rfl⟩

/-! What is in any case. -/
set_option maxHeartbeats 400000 in
theorem begun_any (w : World) : Calls Try.prog 17 #[] w fun e w' => e = .returned (.bool true) ∧ w' = w := by
  have d1 : dflt [47, 97, 47, 98, 47, 99] = [47, 97, 47, 98] := by decide +kernel
  have d2 : dflt [47, 97] = [47] := by decide +kernel
  have d3 : dflt [120, 47, 121, 47, 122] = [47] := by decide +kernel
  have m1 : mtch [47, 97, 47, 98] [47, 97] = true := by decide +kernel
  have m2 : mtch [47, 97, 98] [47, 97] = false := by decide +kernel
  have m3 : mtch [47, 97, 47, 98] [47, 97, 47] = true := by decide +kernel
  have m4 : mtch [47, 97] [47, 97] = true := by decide +kernel
  go_enter Try.func17, Try.ntmps17
  go_wp2_with (first | (go_at_call 18; refine (default_any _ _ (by decide)).mono ?_; rintro e w' ⟨rfl, rfl⟩) | (go_at_call 20; refine (match_any _ _ _ (by decide)).mono ?_; rintro e w' ⟨rfl, rfl⟩))
  go_ret
  exact ⟨rfl, rfl⟩
end Go.Proofs.Ytmcihmcgkhijcaa.PathW
