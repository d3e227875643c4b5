/- The walk of the reference's textBits. -/
import Derived.Test.YtfhfpanemalbmaaDoorBitsN
namespace Go.Proofs.YtfhfpanemalbmaaDoor.BitsM
open Go.RowKit Mem BitsP BitsS BitsT OneB BitsN

theorem tbits_snoc (l : List UInt8) (c : UInt8) : tbits (l ++ [c]) = tbits l ++ bitsOf c.toNat 8 := by simp [tbits]
theorem take_snocB (s : ByteArray) (k : Nat) (h : k < s.size) : s.data.toList.take (k + 1) = s.data.toList.take k ++ [s[k]] := by
  rw [List.take_succ_eq_append_getElem (by simpa using h)]; rfl
set_option maxHeartbeats 2000000 in
theorem textBits_any (s : ByteArray) (w : World) (hs : s.size ≤ 2199023255552) :
    Calls Tryd.prog 32 #[.string s] w (GivesRow w.heap.size 3 (8 * s.size) (ints (tbits s.data.toList)) w) := by
  go_enter Tryd.func32, Tryd.ntmps32
  go_wp2_with fail
  go_loopw [3, 4] (fun v i wr => ∃ k : Nat, k ≤ s.size ∧ i = .int .i64 k ∧ wr.ownsRow w.heap.size 3 1 v (8 * k) (ints (tbits (s.data.toList.take k))) ∧ Below w.heap.size w wr) (fun _ i _ => s.size - (intOf i).toNat)
  case atStart => exact ⟨0, Nat.zero_le _, rfl, World.ownsRow_nil _ _ _ _, Below.refl _ _⟩
  case round =>
    obtain ⟨k, hk, rfl, hown, hb⟩ := hrel
    by_cases hlt : k < s.size
    · have htk := take_snocB s k hlt
      have hc256 : s[k].toNat < 256 := UInt8.toNat_lt _
      have hsn := tbits_snoc (s.data.toList.take k) s[k]
      rw [← htk] at hsn
      have HS := Lib.hid hsn
      clear hsn htk
      have hk1 : (0 : Int) ≤ (k : Int) := by omega
      have hk2 : (k : Int) < (s.size : Int) := by omega
      go_wp2_with fail
      refine (bitList_any s[k].toNat 8 _ (by omega) (by omega)).mono ?_
      rintro e w1 ⟨v1, rfl, o1, hb1⟩
      obtain ⟨A1, c1, rfl, n1, _, r1⟩ := own_row o1
      have hown1 := own_below hown hb1
      have hB1 := below_cat hb hb1
      have hbl := bitsOf_len s[k].toNat 8
      generalize bitsOf s[k].toNat 8 = q at o1 r1 HS hbl
      have HBL := Lib.hid hbl
      clear hbl
      go_wp2_with (first
        | (at_builtin
           refine app elemInt rfl (.tmp 11) (.tmp 16) rfl w.heap.size _ (8 * k) _ rfl hown1 A1 8 c1 (ints q) w1.heap.size rfl (by simp [ints, HBL.out]) r1 (by simp [ints, Value.oneCell']) (fun e => (n1 e).1) (by omega) (by omega) hB1.size ?_
           intro v' w3 o3 g3))
      go_roundw
      case rel =>
        have hrow := fun j e => (hown1.lt j e).1
        refine ⟨k + 1, by omega, by go_num, ?_, hB1.grown g3 hB1.size (fun j e => hrow j e)⟩
        rw [HS.out, show 8 * (k + 1) = 8 * k + 8 from by omega]
        simpa [ints] using o3
      case measure => simp [intOf]; omega
    · obtain rfl : k = s.size := by omega
      rw [List.take_of_length_le (by simp)] at hown
      go_wp2_with fail
      go_ret
      exact ⟨_, rfl, hown, hb⟩

end Go.Proofs.YtfhfpanemalbmaaDoor.BitsM
