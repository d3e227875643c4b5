/- The walks of the reference's pow2, roomFor, bitList, bitBytes, textBits, bitNumber, SameNums. -/
import Derived.Test.YtmcihmcgkhijcaaBitsR
import Derived.Test.YtmcihmcgkhijcaaOneB
namespace Go.Proofs.Ytmcihmcgkhijcaa.BitsU
open Go.RowKit Mem BitsP BitsS BitsT BitsW BitsR OneB

set_option maxHeartbeats 1000000 in
theorem pow2_any (n : Nat) (w : World) (hn : n ≤ 63) : Calls Try.prog 81 #[.int .i64 n] w (fun e w' => e = .returned (.int .u64 ((2 ^ n : Nat) : Int)) ∧ w = w') := by
  go_enter Try.func81, Try.ntmps81
  go_wp2_with fail
  go_loop [3, 4] (fun p i => ∃ k : Nat, k ≤ n ∧ i = .int .i64 k ∧ p = .int .u64 ((2 ^ k : Nat) : Int)) (fun _ i => n - (intOf i).toNat)
  case atStart => exact ⟨0, Nat.zero_le _, rfl, rfl⟩
  case round =>
    obtain ⟨k, hk, rfl, rfl⟩ := hrel
    by_cases hlt : k < n
    · have h1 : 2 ^ (k + 1) = 2 ^ k * 2 := Nat.pow_succ ..
      have h2 : 2 ^ k ≤ 2 ^ 62 := Nat.pow_le_pow_right (by omega) (by omega)
      have H1 := Lib.hid h1
      clear h1
      generalize 2 ^ k = q at H1 h2 ⊢
      go_wp2_with fail
      go_round
      case rel => exact ⟨k + 1, by omega, by go_num, by rw [H1.out]; simp⟩
      case measure => simp [intOf]; omega
    · obtain rfl : k = n := by omega
      generalize hq : 2 ^ k = q
      have HQ := Lib.hid hq
      clear hq
      go_wp2_with fail
      go_ret
      exact ⟨ret_int (by rw [← HQ.out]; simp), rfl⟩
set_option maxHeartbeats 1000000 in
theorem roomFor_any (n W : Nat) (w : World) (hn : n < 18446744073709551616) (hW : W ≤ 64) :
    Calls Try.prog 64 #[.int .u64 n, .int .i64 W] w (fun e w' => e = .returned (.bool (decide (n < 2 ^ W))) ∧ w = w') := by
  by_cases h : W = 64
  · have e : decide (n < 2 ^ W) = true := by subst h; simpa using hn
    rw [e]
    have h1 : decide ((64 : Int) ≤ (W : Int)) = true := by simp; omega
    clear e h
    go_enter Try.func64, Try.ntmps64
    go_wp2_with fail
    go_ret
    exact ⟨rfl, rfl⟩
  · have h1 : decide ((64 : Int) ≤ (W : Int)) = false := by simp; omega
    have CP := Lib.hid (fun w' => pow2_any W w' (by omega))
    generalize 2 ^ W = q at CP ⊢
    go_enter Try.func64, Try.ntmps64
    go_wp2_with fail
    refine (CP.out _).mono ?_
    rintro e w1 ⟨rfl, rfl⟩
    go_wp2_with fail
    go_ret
    exact ⟨rfl, rfl⟩
def ints (l : List Nat) : List Value := l.map fun n : Nat => Value.int .i64 (n : Int)
theorem elemInt : Elem Try.prog 40 3 1 8 := Elem.mk Try.underlying40 (by kernel_rfl : (Try.prog.info? 3).map (fun i => (i.zero, i.size, i.bytes)) = some (some (.int .i64 0), 1, 8)) rfl (by decide)
theorem bitList_snoc (n W k : Nat) (pre : List Nat) (h : pre ++ bitsOf n (k + 1) = bitsOf n W) : (pre ++ [n / 2 ^ k % 2]) ++ bitsOf n k = bitsOf n W := by rw [← h]; simp [bitsOf]
theorem u64_div (n q : Nat) (hn : n < 18446744073709551616) : IntKind.u64.wrap ((n : Int) / ((q : Nat) : Int)) = ((n / q : Nat) : Int) := by
  have h0 : (n : Int) / ((q : Nat) : Int) = ((n / q : Nat) : Int) := by simp
  have h1 : n / q ≤ n := Nat.div_le_self _ _
  rw [h0]
  generalize n / q = y at h1
  rw [IntKind.wrap_u64]; omega
theorem tmod_two (y : Nat) : ((y : Nat) : Int).tmod 2 = ((y % 2 : Nat) : Int) := by rw [Int.tmod_eq_emod_of_nonneg (by omega)]; omega
set_option maxRecDepth 100000 in
set_option maxHeartbeats 2000000 in
theorem bitList_any (n W : Nat) (w : World) (hn : n < 18446744073709551616) (hW : W ≤ 64) :
    Calls Try.prog 65 #[.int .u64 n, .int .i64 W] w (GivesRow w.heap.size 3 W (ints (bitsOf n W)) w) := by
  go_enter Try.func65, Try.ntmps65
  go_wp2_with fail
  go_loopw [5, 6] (fun v i wr => ∃ (k : Nat) (pre : List Nat), k ≤ W ∧ i = .int .i64 ((k : Int) - 1) ∧ pre ++ bitsOf n k = bitsOf n W ∧ wr.ownsRow w.heap.size 3 1 v (W - k) (ints pre) ∧ Below w.heap.size w wr) (fun _ i _ => (intOf i + 1).toNat)
  case atStart => exact ⟨W, [], Nat.le_refl _, rfl, rfl, by rw [Nat.sub_self]; exact World.ownsRow_nil _ _ _ _, Below.refl _ _⟩
  case round =>
    obtain ⟨k, pre, hk, rfl, hpre, hown, hb⟩ := hrel
    rcases k with _ | k
    · have e1 : pre = bitsOf n W := by simpa [bitsOf] using hpre
      have E := Lib.hid e1
      clear e1 hpre
      go_wp2_with fail
      go_ret
      exact ⟨_, rfl, by rw [← E.out]; exact hown, hb⟩
    · have CP := Lib.hid (fun w' => pow2_any k w' (by omega))
      have HP := Lib.hid (bitList_snoc n W k pre hpre)
      have hq : 0 < 2 ^ k := Nat.two_pow_pos k
      clear hpre
      have hb2 : n / 2 ^ k % 2 < 2 := by omega
      have he1 := u64_div n (2 ^ k) hn
      have he2 := tmod_two (n / 2 ^ k)
      have hbs := hb.size
      generalize n / 2 ^ k % 2 = x at hb2 HP he2
      generalize n / 2 ^ k = y at he1 he2
      generalize 2 ^ k = q at CP hq he1
      go_wp2_with (first
        | (refine (CP.out _).mono ?_
           rintro e w1 ⟨rfl, rfl⟩)
        | (at_builtin
           refine app elemInt rfl (.tmp 13) (.tmp 20) rfl w.heap.size _ (W - (k + 1)) _ rfl (hown.alloc _) (some ⟨wr.heap.size, 0, none⟩) 1 1 [.int .i64 (x : Int)] (wr.heap.size + 1) rfl rfl (Row.lit wr _ [.int .i64 (x : Int)] _ (by omega)) (by simp [Value.oneCell']) (fun e => by cases e) (by omega) (by omega) (by simp; omega) ?_
           intro v' w3 o3 g3))
      go_roundw
      case rel =>
        have hrow := fun j e => (hown.lt j e).1
        refine ⟨k, pre ++ [x], by omega, by go_num, HP.out, ?_, (below_new hb _).grown g3 (below_new hb _).size (fun j e => hrow j e)⟩
        rw [show W - k = W - (k + 1) + 1 from by omega]
        simpa [ints] using o3
      case measure => simp [intOf]
/-- A slice of ints reads as these numbers. -/
abbrev IRow (w : World) (B : Nat) (A : Option Addr) (l : List Nat) : Prop := Row w B A (ints l)
set_option maxHeartbeats 1000000 in
theorem bitNumber_any (A : Option Addr) (c : Nat) (l : List Nat) (w : World) (hr : IRow w w.heap.size A l) (hl : Bin l) (hn : l.length ≤ 64) :
    Calls Try.prog 68 #[.slice A l.length c] w (fun e w' => e = .returned (.int .u64 (num l)) ∧ w = w') := by
  go_enter Try.func68, Try.ntmps68
  go_wp2_with fail
  go_loop [3, 4] (fun v i => ∃ k : Nat, k ≤ l.length ∧ i = .int .i64 k ∧ v = .int .u64 (num (l.take k))) (fun _ i => l.length - (intOf i).toNat)
  case atStart => exact ⟨0, Nat.zero_le _, rfl, rfl⟩
  case round =>
    obtain ⟨k, hk, rfl, rfl⟩ := hrel
    by_cases hlt : k < l.length
    · obtain ⟨b, o, rfl, hbB, hcs⟩ := hr.open' (by simp [ints]; omega)
      have hc := hcs k (.int .i64 (l[k] : Int)) (by simp [ints, hlt])
      have htk : l.take (k + 1) = l.take k ++ [l[k]] := List.take_succ_eq_append_getElem hlt
      have hb2 : l[k] < 2 := hl _ (List.getElem_mem hlt)
      have hs := num_snoc (l.take k) l[k]
      rw [← htk] at hs
      have hN : num (l.take k) < 2 ^ (l.take k).length := num_lt (fun b hb => hl b (List.mem_of_mem_take hb))
      have hN2 : num (l.take k) < 9223372036854775808 := Nat.lt_of_lt_of_le hN (Nat.le_trans (Nat.pow_le_pow_right (by omega) (show (l.take k).length ≤ 63 by rw [List.length_take]; omega)) (by decide))
      have HS := Lib.hid hs
      clear hs htk hcs hN
      generalize l[k] = x at hc hb2 HS
      generalize num (l.take k) = N at HS hN2
      go_wp2_with fail
      go_round
      case rel => exact ⟨k + 1, by omega, by go_num, by rw [HS.out]; simp⟩
      case measure => simp [intOf]; omega
    · obtain rfl : k = l.length := by omega
      rw [List.take_length]
      go_wp2_with fail
      go_ret
      exact ⟨rfl, rfl⟩
end Go.Proofs.Ytmcihmcgkhijcaa.BitsU
