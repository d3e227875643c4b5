/- The walks of Sink.Text, Source.Left and Source.Get. -/
import Derived.Test.YtfhfpanemalbmaaDoorBitsS
import Derived.Laws.BytesArg
namespace Go.Proofs.YtfhfpanemalbmaaDoor.BitsT
open Go.RowKit Mem BitsP BitsS

def btx (l : List Nat) : ByteArray := ⟨((packB l).map UInt8.ofNat).toArray⟩
set_option maxHeartbeats 1000000 in
theorem text_any {T : Nat} (g : Nat) (p : Nat → Prop) (l : List Nat) (w : World) (hl : Bin l) (h : SinkT T w g p l) :
    Calls Tryd.prog 49 #[.pointer (some ⟨g, 0, none⟩)] w (fun e w' => e = .returned (.string (btx l)) ∧ w = w') := by
  obtain ⟨hp, v, hg, hv, hown⟩ := h
  obtain ⟨c0, c1, f0, f1⟩ := two_cells hg
  have hb : ∀ x ∈ packB l, x < 256 := fun x hx => by
    simp only [packB, List.mem_map] at hx
    obtain ⟨j, _, rfl⟩ := hx
    exact byteAt_lt hl j
  unfold btx
  generalize packB l = q at hown hb ⊢
  rcases hown.2 with ⟨rfl, h2⟩ | ⟨r, cap, cur, rfl, hg', hh, _⟩
  · obtain rfl : q = [] := List.eq_nil_of_length_eq_zero h2
    clear hg hown hp hv
    have kb : (convert 68 9 (.slice none 0 0)).run Tryd.prog w = .ok (.string ByteArray.empty) w := run_convert_bytes_nil w 68 5 Tryd.underlying68 Tryd.underlying5 0 0 9 Tryd.underlying9
    clear hb f0 f1 h2 c1 hl
    go_enter Tryd.func49, Tryd.ntmps49
    go_wp2_with fail
    go_ret
    exact ⟨rfl, rfl⟩
  · have kb := run_convert_bytes_back (P := Tryd.prog) w 68 9 5 ⟨r, 0, none⟩ cap (q.map UInt8.ofNat) Tryd.underlying68 Tryd.underlying5 Tryd.underlying9 (fun j hj => by
      have hj' : j < q.length := by simpa using hj
      have hx := hb q[j] (List.getElem_mem hj')
      have hc := hown.cellAt j (by omega)
      have e : (u8s q)[j]? = some (.int .u8 (((q.map UInt8.ofNat)[j]).toNat : Int)) := by
        simp [u8s, hj', UInt8.toNat_ofNat']; omega
      rw [e] at hc
      unfold Addr.add
      split
      · subst_vars; exact hc
      · simpa using hc)
    simp only [List.length_map] at kb
    clear hg hown hp hv hb hg' hh
    go_enter Tryd.func49, Tryd.ntmps49
    go_wp2_with fail
    go_ret
    exact ⟨rfl, rfl⟩

/-- The source at block g: its text, and the next bit. -/
def SrcT (T : Nat) (w : World) (g : Nat) (s : ByteArray) (n : Nat) : Prop := w.heap[g]? = some (.cells #[.string s, .int .i64 (n : Int)] T (0, 0))
abbrev SrcAt := SrcT 54
section
variable {ty : Nat}
theorem SrcT.below {w w' : World} {g : Nat} {s : ByteArray} {n : Nat} (h : SrcT ty w g s n) (hb : Below w.heap.size w w') : SrcT ty w' g s n := (hb.block g (block_lt h)).trans h
theorem left_any (g : Nat) (s : ByteArray) (n : Nat) (w : World) (hs : 8 * s.size ≤ 9223372036854775807) (hn : n ≤ 8 * s.size) (h : SrcT ty w g s n) :
    Calls Tryd.prog 66 #[.pointer (some ⟨g, 0, none⟩)] w (fun e w' => e = .returned (.int .i64 ((8 * s.size - n : Nat) : Int)) ∧ Below w.heap.size w w') := by
  obtain ⟨c0, c1, f0, f1⟩ := two_cells h
  have hw1 : IntKind.i64.wrap (8 * (s.size : Int)) = 8 * (s.size : Int) := IntWalk.i64_in _ (by omega)
  have hw2 : IntKind.i64.wrap (8 * (s.size : Int) - (n : Int)) = 8 * (s.size : Int) - (n : Int) := IntWalk.i64_in _ (by omega)
  have e : ((8 * s.size - n : Nat) : Int) = 8 * (s.size : Int) - (n : Int) := by omega
  rw [e]
  clear h e
  go_enter Tryd.func66, Tryd.ntmps66
  go_wp2_with fail
  go_quiet (fail)
  go_wp2_with fail
  go_ret
  exact ⟨rfl, below_drewN (Below.refl _ _) _⟩

theorem bit_of8 (n k : Nat) (hn : n < 256) : bits .and .u8 ((n : Int) / 2 ^ k) 1 = ((n / 2 ^ k % 2 : Nat) : Int) := by
  have e : ((n : Int) / 2 ^ k) = ((n / 2 ^ k : Nat) : Int) := by simp
  rw [e, show (1 : Int) = ((1 : Nat) : Int) from rfl, u8_and_nat _ 1 (Nat.lt_of_le_of_lt (Nat.div_le_self _ _) hn) (by omega), nat_mask1]
theorem or_next (N b : Nat) (hN : N < 9223372036854775808) (hb : b < 2) : bits .or .u64 ((N : Int) * 2) (b : Int) = ((2 * N + b : Nat) : Int) := by
  rw [show (N : Int) * 2 = ((2 * N : Nat) : Int) from by omega, u64_or_nat (2 * N) b (by omega) (by omega), nat_join 1 (2 * N) b (by omega) (by omega)]
theorem take_next (l : List Nat) (i k b : Nat) (h : l[i + k]? = some b) : (l.drop i).take (k + 1) = (l.drop i).take k ++ [b] := by
  obtain ⟨hl, rfl⟩ := List.getElem?_eq_some_iff.1 h
  rw [List.take_succ_eq_append_getElem (by simp; omega)]
  simp
set_option maxHeartbeats 2000000 in
theorem get_any (g : Nat) (s : ByteArray) (n W : Nat) (w : World) (hs : 8 * s.size ≤ 9223372036854775807) (hW : W ≤ 64) (hn : n + W ≤ 8 * s.size) (h : SrcT ty w g s n) :
    Calls Tryd.prog 67 #[.pointer (some ⟨g, 0, none⟩), .int .i64 W] w (fun e w' => e = .returned (.int .u64 (num (((tbits s.data.toList).drop n).take W))) ∧ SrcT ty w' g s (n + W) ∧ Kept (· ≠ g) w w') := by
  have hbin := tbits_bin s.data.toList
  have hsl : s.data.toList.length = s.size := by simp
  have htb := fun i (hi : i < 8 * s.data.toList.length) => tbits_at s.data.toList i hi
  have HTB := Lib.hid htb; have HSL := Lib.hid hsl; clear htb hsl
  generalize tbits s.data.toList = T at hbin HTB ⊢
  go_enter Tryd.func67, Tryd.ntmps67
  go_wp2_with fail
  go_loopw [4, 7] (fun v i wr => ∃ k : Nat, k ≤ W ∧ i = .int .i64 k ∧ v = .int .u64 (num ((T.drop n).take k)) ∧ SrcT ty wr g s (n + k) ∧ Kept (· ≠ g) w wr) (fun _ i _ => W - (intOf i).toNat)
  case atStart => exact ⟨0, Nat.zero_le _, rfl, rfl, h, Kept.refl _ _⟩
  case round =>
    obtain ⟨k, hk, rfl, rfl, hsrc, hkept⟩ := hrel
    have hlt64 : num ((T.drop n).take k) < 2 ^ k := Nat.lt_of_lt_of_le (num_lt (fun b hb => hbin b (List.mem_of_mem_drop (List.mem_of_mem_take hb)))) (Nat.pow_le_pow_right (by omega) (List.length_take_le _ _))
    by_cases hlt : k < W
    · obtain ⟨c0, c1, f0, f1⟩ := two_cells hsrc
      have hq : (n + k) / 8 < s.size := by omega
      have hb := HTB.out (n + k) (by rw [HSL.out]; omega)
      have htk := take_next T n k _ hb
      have hns := num_snoc ((T.drop n).take k) (s.data.toList[(n + k) / 8].toNat / 2 ^ (7 - (n + k) % 8) % 2)
      rw [← htk] at hns
      have HNS := Lib.hid hns; have HSRC := Lib.hid hsrc
      clear hns htk hb hsrc
      have HN := Lib.hid hn
      generalize hi0 : n + k = i0 at c1 hq HNS HSRC hkept
      have HI := Lib.hid hi0
      have hi1 : (i0 : Int) + 1 ≤ 9223372036854775807 := by omega
      clear hi0 hn
      have hc256 : s[i0 / 8].toNat < 256 := UInt8.toNat_lt _
      have hidx : s.data.toList[i0 / 8] = s[i0 / 8] := rfl
      rw [hidx] at HNS
      clear hidx
      have hd : IntKind.i64.wrap ((i0 : Int) / 8) = ((i0 / 8 : Nat) : Int) := by rw [IntWalk.i64_in _ (by omega)]; omega
      have hr : (i0 : Int).tmod 8 = ((i0 % 8 : Nat) : Int) := by rw [Int.tmod_eq_emod_of_nonneg (by omega)]; omega
      have hf : IntKind.i64.wrap (7 - ((i0 % 8 : Nat) : Int)) = ((7 - i0 % 8 : Nat) : Int) := by rw [IntWalk.i64_in _ (by omega)]; omega
      have hf7 : 7 - i0 % 8 ≤ 7 := by omega
      generalize 7 - i0 % 8 = f at hf hf7 HNS
      generalize i0 % 8 = r at hr hf
      obtain ⟨q, hqe⟩ : ∃ q, q = i0 / 8 := ⟨_, rfl⟩
      have hql : q < s.size := by omega
      have hcq : s[i0 / 8] = s[q] := by subst hqe; rfl
      rw [hcq] at HNS hc256
      rw [← hqe] at hd
      have HQ := Lib.hid hqe
      clear hqe hcq hq
      have hq2 : (q : Int) < (s.size : Int) := by omega
      have hq3 : (0 : Int) ≤ (q : Int) := by omega
      have hbit := bit_of8 s[q].toNat f hc256
      have hb2 : s[q].toNat / 2 ^ f % 2 < 2 := by omega
      have hN : num ((T.drop n).take k) < 9223372036854775808 := Nat.lt_of_lt_of_le hlt64 (Nat.le_trans (Nat.pow_le_pow_right (by omega) (show k ≤ 63 by omega)) (by decide))
      generalize s[q].toNat / 2 ^ f % 2 = b at hbit hb2 HNS
      generalize num ((T.drop n).take k) = N at hN HNS hlt64
      have HOR := Lib.hid (or_next N b hN hb2)
      go_wp2_with fail
      refine Seq.region_seq (S := fun w' => w'.cell? ⟨g, 0, none⟩ = some (.string s) ∧ w'.cell? ⟨g, 1, none⟩ = some (.int .i64 (i0 : Int)))
        [(0, false), (1, false), (2, false), (3, false), (4, false), (5, false), (6, false), (7, false), (8, false), (9, false), (10, false), (11, false), (12, false), (13, false), (14, false), (15, false), (16, false), (17, false), (18, false)]
        (by kernel_rfl) (by kernel_rfl) (fun _ _ d _ _ h => by cases d <;> exact h) ⟨c0, c1⟩ ?_
      simp only [Seq.lay, List.getElem?_cons_zero, List.getElem?_cons_succ]
      repeat (first
        | (refine Seq.seq_read (v := ?_) (by rfl) ?_ ?_
           rotate_left
           · (intro w' hS; obtain ⟨s0, s1⟩ := hS; go_simp; with_reducible rfl)
           simp only [Act.put, List.setIfInBounds_toArray, List.set_cons_zero, List.set_cons_succ]))
      refine Seq.seq_nil ?_
      go_wp2_with fail
      go_roundw
      case rel =>
        refine ⟨k + 1, by omega, by go_num, by rw [HOR.out, HNS.out], ?_, (hkept.setCell (fun h => absurd rfl h) _).drew⟩
        have h1 := two_set1 HSRC.out (.int .i64 ((i0 : Int) + 1))
        have h2 := HI.out
        unfold SrcT
        rw [show ((n + (k + 1) : Nat) : Int) = (i0 : Int) + 1 from by omega]
        exact h1
      case measure => simp [intOf]; omega
    · obtain rfl : k = W := by omega
      go_wp2_with fail
      go_ret
      exact ⟨rfl, hsrc, hkept⟩
end
end Go.Proofs.YtfhfpanemalbmaaDoor.BitsT
