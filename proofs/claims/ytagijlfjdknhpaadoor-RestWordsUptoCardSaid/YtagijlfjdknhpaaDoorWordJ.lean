/- The walks of word.Join, and of the reference's SameTexts, ByteText, JoinOf. -/
import Derived.Test.YtagijlfjdknhpaaDoorWordC
import Derived.Lib.Join
namespace Go.Proofs.YtagijlfjdknhpaaDoor.WordJ
open Go.RowKit Mem WordP OneB WordW WordS WordC

theorem lib_join (u : UInt8) (l : List (List UInt8)) : Lib.join l [u] = join u l := by
  induction l with
  | nil => rfl
  | cons a l ih =>
    cases l with
    | nil => rw [Lib.join_one]; simp [join]
    | cons b l =>
      rw [join_cons _ _ _ (by simp), ← ih]
      simp [Lib.join, List.intercalate]
def strs (L : List ByteArray) : List Value := L.map Value.string
theorem strs_len (L : List ByteArray) : (strs L).length = L.length := by simp [strs]
theorem strs_open {w : World} {B : Nat} {A : Option Addr} {L : List ByteArray} (h : Row w B A (strs L)) (hl : 0 < L.length) : ∃ b o, A = some ⟨b, o, none⟩ ∧ b < B ∧ ∀ (j : Nat) x, L[j]? = some x → w.cell? ⟨b, o + j, none⟩ = some (.string x) := by
  obtain ⟨b, o, e, hlt, hc⟩ := h (by rw [strs_len]; exact hl)
  refine ⟨b, o, e, hlt, fun j x hx => ?_⟩
  obtain ⟨hj, rfl⟩ := List.getElem?_eq_some_iff.1 hx
  rw [hc j (by rw [strs_len]; exact hj)]
  simp [strs]
set_option maxHeartbeats 1000000 in
theorem strJoin_any (A : Option Addr) (c : Nat) (L : List ByteArray) (u : UInt8) (w : World) (hL : Row w w.heap.size A (strs L)) (hc : L.length ≤ c) (hn : L.length ≤ 140737488355328) (hlen : (join u (L.map (·.data.toList))).length ≤ 140737488355328) :
    Calls Tryd.prog 45 #[.slice A L.length c, .string ⟨#[u]⟩] w (Gives (.string (str (join u (L.map (·.data.toList))))) w) := by
  by_cases h0 : 0 < L.length
  · obtain ⟨b, o, rfl, hb, hcs⟩ := strs_open hL h0
    have h := Tryd.strings_Join b o c L ⟨#[u]⟩ w hcs hb hn hc (by rw [lib_join]; exact hlen)
    rw [lib_join] at h
    exact h
  · obtain rfl : L = [] := List.eq_nil_of_length_eq_zero (by omega)
    exact (Tryd.strings_Join_none A c ⟨#[u]⟩ w).mono fun _ _ h => ⟨h.1, by rw [h.2]; exact Below.refl _ _⟩
set_option maxHeartbeats 1000000 in
theorem join_any (A : Option Addr) (c : Nat) (L : List ByteArray) (u : UInt8) (w : World) (hL : Row w w.heap.size A (strs L)) (hc : L.length ≤ c) (hn : L.length ≤ 140737488355328) (hlen : (join u (L.map (·.data.toList))).length ≤ 140737488355328) :
    Calls Tryd.prog 29 #[.slice A L.length c, .int .u8 u.toNat] w (Gives (.string (str (join u (L.map (·.data.toList))))) w) := by
  have kb : (convert 41 9 (.slice (some ⟨w.heap.size, 0, none⟩) 1 1)).run Tryd.prog (w.alloc (.cells #[.int .u8 u.toNat] 5)) = .ok (.string ⟨#[u]⟩) (w.alloc (.cells #[.int .u8 u.toNat] 5)) :=
    run_convert_bytes_back (P := Tryd.prog) _ 41 9 5 ⟨w.heap.size, 0, none⟩ 1 [u] Tryd.underlying41 Tryd.underlying5 Tryd.underlying9 (fun j hj => by
      obtain rfl : j = 0 := by simpa using hj
      simp only [List.getElem_cons_zero]
      simp [Addr.add, World.cell?_alloc_new])
  have hu : u.toNat < 256 := u.toNat_lt
  have CJ := Lib.hid (strJoin_any A c L u (w.alloc (.cells #[.int .u8 u.toNat] 5)) (hL.at' ((Below.refl _ w).alloc (Nat.le_refl _) _)) hc hn hlen)
  clear hL hlen
  go_enter Tryd.func29, Tryd.ntmps29
  go_wp2_with fail
  with_reducible refine CJ.out.mono ?_
  rintro e w1 ⟨rfl, hb1⟩
  go_wp2_with fail
  go_ret
  exact ⟨rfl, ((Below.refl _ w).alloc (Nat.le_refl _) _).trans (hb1.mono (by simp))⟩
theorem byteText_any (u : UInt8) (w : World) :
    Calls Tryd.prog 46 #[.int .u8 u.toNat] w (Gives (.string ⟨#[u]⟩) w) := by
  have kb : (convert 41 9 (.slice (some ⟨w.heap.size, 0, none⟩) 1 1)).run Tryd.prog (w.alloc (.cells #[.int .u8 u.toNat] 5)) = .ok (.string ⟨#[u]⟩) (w.alloc (.cells #[.int .u8 u.toNat] 5)) :=
    run_convert_bytes_back (P := Tryd.prog) _ 41 9 5 ⟨w.heap.size, 0, none⟩ 1 [u] Tryd.underlying41 Tryd.underlying5 Tryd.underlying9 (fun j hj => by
      obtain rfl : j = 0 := by simpa using hj
      simp only [List.getElem_cons_zero]
      simp [Addr.add, World.cell?_alloc_new])
  have hu : u.toNat < 256 := u.toNat_lt
  go_enter Tryd.func46, Tryd.ntmps46
  go_wp2_with fail
  go_ret
  exact ⟨rfl, (Below.refl _ _).alloc (Nat.le_refl _) _⟩
theorem takeS (L : List ByteArray) (k : Nat) (h : k < L.length) : L.take (k + 1) = L.take k ++ [L[k]] := List.take_succ_eq_append_getElem h
set_option maxHeartbeats 2000000 in
theorem sameTexts_any (A : Option Addr) (c : Nat) (L : List ByteArray) (A' : Option Addr) (c' : Nat) (L' : List ByteArray) (w : World) (hL : Row w w.heap.size A (strs L)) (hn : L.length ≤ 4611686018427387904) (hL' : Row w w.heap.size A' (strs L')) (hn' : L'.length ≤ 4611686018427387904) :
    Calls Tryd.prog 26 #[.slice A L.length c, .slice A' L'.length c'] w (Gives (.bool (decide (L = L'))) w) := by
  by_cases hl : L.length = L'.length
  · have hb : ((L.length : Int) != (L'.length : Int)) = false := by simp [hl]
    have HL := Lib.hid hl; clear hl
    go_enter Tryd.func26, Tryd.ntmps26
    go_wp2_with fail
    go_loopw [5] (fun i wr => ∃ k : Nat, k ≤ L.length ∧ i = .int .i64 k ∧ L.take k = L'.take k ∧ Below w.heap.size w wr) (fun i _ => L.length - (intOf i).toNat)
    case atStart => exact ⟨0, Nat.zero_le _, rfl, rfl, Below.refl _ _⟩
    case round =>
      obtain ⟨k, hk, rfl, hpre, hbw⟩ := hrel
      have HP := Lib.hid hpre; clear hpre
      by_cases hlt : k < L.length
      · have hlt' : k < L'.length := by have := HL.out; omega
        obtain ⟨b, o, rfl, hbB, hcs⟩ := strs_open (hL.below hbw) (by omega)
        obtain ⟨b', o', rfl, hbB', hcs'⟩ := strs_open (hL'.below hbw) (by omega)
        have c1 := hcs k L[k] (by simp [hlt])
        have c2 := hcs' k L'[k] (by simp [hlt'])
        generalize hs : L[k] = s at c1
        generalize ht : L'[k] = t at c2
        have HS := Lib.hid hs; have HT := Lib.hid ht; clear hs ht hcs hcs'
        have hw1 : (0 : Int) ≤ (k : Int) := by omega
        have hw2 : (k : Int) < (L.length : Int) := by omega
        have hw3 : (k : Int) < (L'.length : Int) := by omega
        by_cases hst : s = t
        · have hq : (s.toList == t.toList) = true := by subst hst; simp
          have HE := Lib.hid hst; clear hst
          go_wp2_with fail
          go_quiet (fail)
          go_wp2_with fail
          go_roundw
          case rel => exact ⟨k + 1, by omega, by go_num, by rw [takeS L k hlt, takeS L' k hlt', HP.out, HS.out, HT.out, HE.out], below_drewN hbw _⟩
          case measure => simp [intOf]; omega
        · have hq : (s.toList == t.toList) = false := ne_toList hst
          have HE := Lib.hid hst; clear hst
          go_wp2_with fail
          go_quiet (fail)
          go_wp2_with fail
          go_ret
          refine ⟨ret_bool (decide_eq_false (fun e => HE.out ?_)).symm, below_drewN hbw _⟩
          rw [← HS.out, ← HT.out]
          subst e
          rfl
      · go_wp2_with fail
        go_ret
        refine ⟨ret_bool (decide_eq_true ?_).symm, hbw⟩
        have hp := HP.out
        have h1 : k = L.length := by omega
        have h2 := HL.out
        rw [h1, List.take_length, h2, List.take_length] at hp
        exact hp
  · have hb : ((L.length : Int) != (L'.length : Int)) = true := by simp; omega
    have HL := Lib.hid hl; clear hl
    go_enter Tryd.func26, Tryd.ntmps26
    go_wp2_with fail
    go_ret
    exact ⟨ret_bool (decide_eq_false (fun e => HL.out (congrArg List.length e))).symm, Below.refl _ _⟩
theorem str_cat (a b : List UInt8) : str a ++ str b = str (a ++ b) := by
  apply ByteArray.ext; simp [str, ByteArray.data_append]
theorem join_take (u : UInt8) (l : List (List UInt8)) (k : Nat) : (join u (l.take k)).length ≤ (join u l).length := by
  induction l generalizing k with
  | nil => simp
  | cons a l ih =>
    cases k with
    | zero => simp [join]
    | succ k =>
      rw [List.take_succ_cons]
      have := ih k
      unfold join
      split <;> split <;> simp_all
theorem join_next (u : UInt8) (l : List (List UInt8)) (k : Nat) (hk : k < l.length) (h0 : k ≠ 0) : join u (l.take (k + 1)) = join u (l.take k) ++ u :: l[k] := by
  rw [List.take_succ_eq_append_getElem hk, join_snoc]
  intro e
  rw [List.take_eq_nil_iff] at e
  rcases e with e | e
  · exact h0 e
  · subst e; simp at hk
set_option maxHeartbeats 2000000 in
theorem joinOf_any (A : Option Addr) (c : Nat) (L : List ByteArray) (u : UInt8) (w : World) (hL : Row w w.heap.size A (strs L)) (hn : L.length ≤ 4611686018427387904) (hlen : (join u (L.map (·.data.toList))).length ≤ 4611686018427387904) :
    Calls Tryd.prog 30 #[.slice A L.length c, .int .u8 u.toNat] w (Gives (.string (str (join u (L.map (·.data.toList))))) w) := by
  have CB := Lib.hid (fun w' => byteText_any u w')
  have hu : u.toNat < 256 := u.toNat_lt
  have HLN := Lib.hid hlen
  clear hlen
  go_enter Tryd.func30, Tryd.ntmps30
  go_wp2_with fail
  go_loopw [5, 6] (fun v i wr => ∃ k : Nat, k ≤ L.length ∧ i = .int .i64 k ∧ v = .string (str (join u ((L.take k).map (·.data.toList)))) ∧ Below w.heap.size w wr) (fun _ i _ => L.length - (intOf i).toNat)
  case atStart => exact ⟨0, Nat.zero_le _, rfl, rfl, Below.refl _ _⟩
  case round =>
    obtain ⟨k, hk, rfl, rfl, hb⟩ := hrel
    by_cases hlt : k < L.length
    · obtain ⟨b, o, rfl, hbB, hcs⟩ := strs_open (hL.below hb) (by omega)
      have c1 := hcs k L[k] (by simp [hlt])
      have htk := takeS L k hlt
      generalize hsk : L[k] = s at c1 htk
      have hw1 : (0 : Int) ≤ (k : Int) := by omega
      have hw2 : (k : Int) < (L.length : Int) := by omega
      have hjl := join_take u (L.map (·.data.toList)) (k + 1)
      have HJL : (join u ((L.take (k + 1)).map (·.data.toList))).length ≤ 4611686018427387904 := by
        rw [List.map_take]; have := HLN.out; omega
      clear hcs hjl
      by_cases h0 : k = 0
      · subst h0
        rw [Nat.add_zero] at c1
        have hnx : join u ((L.take (0 + 1)).map (·.data.toList)) = s.data.toList := by rw [htk]; simp [join]
        have hcat : str [] ++ s = str (join u ((L.take (0 + 1)).map (·.data.toList))) := by rw [hnx]; conv => { lhs; rw [← mkB s] }; exact str_cat [] _
        have hac : str (join u ((L.take 0).map (·.data.toList))) = str [] := rfl
        have hse : (str []).size = 0 := rfl
        have hss : s.size ≤ 4611686018427387904 := by rw [hnx] at HJL; simpa using HJL
        rw [hac]
        have HC := Lib.hid hcat
        clear hcat hnx HJL hac htk
        generalize str [] = e0 at HC hse ⊢
        go_wp2_with fail
        go_roundw
        case rel => exact ⟨0 + 1, by omega, by go_num, by rw [HC.out], hb⟩
        case measure => simp [intOf]; omega
      · have hnx : join u ((L.take (k + 1)).map (·.data.toList)) = join u ((L.take k).map (·.data.toList)) ++ u :: s.data.toList := by
          have hg : (L.map (·.data.toList))[k]'(by simpa using hlt) = s.data.toList := by simp [hsk]
          have := join_next u (L.map (·.data.toList)) k (by simpa using hlt) h0
          rw [hg] at this
          rw [List.map_take, List.map_take]; exact this
        have hcat : str (join u ((L.take k).map (·.data.toList))) ++ ⟨#[u]⟩ ++ s = str (join u ((L.take (k + 1)).map (·.data.toList))) := by
          rw [hnx]; conv => { lhs; rw [← mkB s] }
          rw [← str_app]
          exact (str_cat _ _).trans (by simp)
        have hsz : (str (join u ((L.take k).map (·.data.toList)))).size + 1 + s.size ≤ 4611686018427387904 := by
          rw [hnx] at HJL; rw [str_size]; simp at HJL ⊢; omega
        have hk0 : (k : Int) > 0 := by omega
        have HC := Lib.hid hcat
        clear hcat hnx HJL htk
        generalize str (join u ((L.take k).map (·.data.toList))) = acc at HC hsz ⊢
        go_wp2_with fail
        with_reducible refine (CB.out _).mono ?_
        rintro e w1 ⟨rfl, hb1⟩
        have hbn := below_cat hb hb1
        have c2 := (hb1.cell (p := ⟨b, o + k, none⟩) (Nat.lt_of_lt_of_le hbB hb.size)).trans c1
        go_wp2_with fail
        go_roundw
        case rel => exact ⟨k + 1, by omega, by go_num, by rw [HC.out], hbn⟩
        case measure => simp [intOf]; omega
    · obtain rfl : k = L.length := by omega
      rw [List.take_length]
      go_wp2_with fail
      go_ret
      exact ⟨rfl, hb⟩
end Go.Proofs.YtagijlfjdknhpaaDoor.WordJ
