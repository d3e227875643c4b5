/- The walks of word.Join, and of the reference's SameTexts, ByteText, JoinOf. -/
import Derived.Test.YtkgdkpiacencjaaDoorWordC
import Derived.Lib.Join
namespace Go.Proofs.YtkgdkpiacencjaaDoor.WordJ
open Go.RowKit Mem WordP OneB WordW WordS WordC

theorem lib_join (u : UInt8) (l : List (List UInt8)) : Lib.join l [u] = join u l := by
  induction l with
  | nil => rfl
  | cons a l ih =>
    cases l with
    | nil => rw [Lib.join_one]; simp [join]
    | cons b l =>
      rw [join_cons _ _ _ (by simp), ← ih]
      simp [Lib.join, List.intercalate]
def strs (L : List ByteArray) : List Value := L.map Value.string
theorem strs_len (L : List ByteArray) : (strs L).length = L.length := by simp [strs]
theorem strs_open {w : World} {B : Nat} {A : Option Addr} {L : List ByteArray} (h : Row w B A (strs L)) (hl : 0 < L.length) : ∃ b o, A = some ⟨b, o, none⟩ ∧ b < B ∧ ∀ (j : Nat) x, L[j]? = some x → w.cell? ⟨b, o + j, none⟩ = some (.string x) := by
  obtain ⟨b, o, e, hlt, hc⟩ := h (by rw [strs_len]; exact hl)
  refine ⟨b, o, e, hlt, fun j x hx => ?_⟩
  obtain ⟨hj, rfl⟩ := List.getElem?_eq_some_iff.1 hx
  rw [hc j (by rw [strs_len]; exact hj)]
  simp [strs]
theorem takeS (L : List ByteArray) (k : Nat) (h : k < L.length) : L.take (k + 1) = L.take k ++ [L[k]] := List.take_succ_eq_append_getElem h
set_option maxHeartbeats 2000000 in
theorem sameTexts_any (A : Option Addr) (c : Nat) (L : List ByteArray) (A' : Option Addr) (c' : Nat) (L' : List ByteArray) (w : World) (hL : Row w w.heap.size A (strs L)) (hn : L.length ≤ 4611686018427387904) (hL' : Row w w.heap.size A' (strs L')) (hn' : L'.length ≤ 4611686018427387904) :
    Calls Tryd.prog 26 #[.slice A L.length c, .slice A' L'.length c'] w (Gives (.bool (decide (L = L'))) w) := by
  by_cases hl : L.length = L'.length
  · have hb : ((L.length : Int) != (L'.length : Int)) = false := by simp [hl]
    have HL := Lib.hid hl; clear hl
    go_enter Tryd.func26, Tryd.ntmps26
    go_wp2_with fail
    go_loopw [5] (fun i wr => ∃ k : Nat, k ≤ L.length ∧ i = .int .i64 k ∧ L.take k = L'.take k ∧ Below w.heap.size w wr) (fun i _ => L.length - (intOf i).toNat)
    case atStart => exact ⟨0, Nat.zero_le _, rfl, rfl, Below.refl _ _⟩
    case round =>
      obtain ⟨k, hk, rfl, hpre, hbw⟩ := hrel
      have HP := Lib.hid hpre; clear hpre
      by_cases hlt : k < L.length
      · have hlt' : k < L'.length := by have := HL.out; omega
        obtain ⟨b, o, rfl, hbB, hcs⟩ := strs_open (hL.below hbw) (by omega)
        obtain ⟨b', o', rfl, hbB', hcs'⟩ := strs_open (hL'.below hbw) (by omega)
        have c1 := hcs k L[k] (by simp [hlt])
        have c2 := hcs' k L'[k] (by simp [hlt'])
        generalize hs : L[k] = s at c1
        generalize ht : L'[k] = t at c2
        have HS := Lib.hid hs; have HT := Lib.hid ht; clear hs ht hcs hcs'
        have hw1 : (0 : Int) ≤ (k : Int) := by omega
        have hw2 : (k : Int) < (L.length : Int) := by omega
        have hw3 : (k : Int) < (L'.length : Int) := by omega
        by_cases hst : s = t
        · have hq : (s.toList == t.toList) = true := by subst hst; simp
          have HE := Lib.hid hst; clear hst
          go_wp2_with fail
          go_quiet (fail)
          go_wp2_with fail
          go_roundw
          case rel => exact ⟨k + 1, by omega, by go_num, by rw [takeS L k hlt, takeS L' k hlt', HP.out, HS.out, HT.out, HE.out], Mem.below_drewN hbw _⟩
          case measure => simp [intOf]; omega
        · have hq : (s.toList == t.toList) = false := ne_toList hst
          have HE := Lib.hid hst; clear hst
          go_wp2_with fail
          go_quiet (fail)
          go_wp2_with fail
          go_ret
          refine ⟨ret_bool (decide_eq_false (fun e => HE.out ?_)).symm, Mem.below_drewN hbw _⟩
          rw [← HS.out, ← HT.out]
          subst e
          rfl
      · go_wp2_with fail
        go_ret
        refine ⟨ret_bool (decide_eq_true ?_).symm, hbw⟩
        have hp := HP.out
        have h1 : k = L.length := by omega
        have h2 := HL.out
        rw [h1, List.take_length, h2, List.take_length] at hp
        exact hp
  · have hb : ((L.length : Int) != (L'.length : Int)) = true := by simp; omega
    have HL := Lib.hid hl; clear hl
    go_enter Tryd.func26, Tryd.ntmps26
    go_wp2_with fail
    go_ret
    exact ⟨ret_bool (decide_eq_false (fun e => HL.out (congrArg List.length e))).symm, Below.refl _ _⟩
theorem str_cat (a b : List UInt8) : str a ++ str b = str (a ++ b) := by
  apply ByteArray.ext; simp [str, ByteArray.data_append]
theorem join_take (u : UInt8) (l : List (List UInt8)) (k : Nat) : (join u (l.take k)).length ≤ (join u l).length := by
  induction l generalizing k with
  | nil => simp
  | cons a l ih =>
    cases k with
    | zero => simp [join]
    | succ k =>
      rw [List.take_succ_cons]
      have := ih k
      unfold join
      split <;> split <;> simp_all
theorem join_next (u : UInt8) (l : List (List UInt8)) (k : Nat) (hk : k < l.length) (h0 : k ≠ 0) : join u (l.take (k + 1)) = join u (l.take k) ++ u :: l[k] := by
  rw [List.take_succ_eq_append_getElem hk, join_snoc]
  intro e
  rw [List.take_eq_nil_iff] at e
  rcases e with e | e
  · exact h0 e
  · subst e; simp at hk
end Go.Proofs.YtkgdkpiacencjaaDoor.WordJ
