/- The walks of the reference's pow2, bitList, bitNumber, bitBytes. -/
import Derived.Test.YtfhfpanemalbmaaDoorBitsT
import Derived.Test.YtfhfpanemalbmaaDoorOneB
namespace Go.Proofs.YtfhfpanemalbmaaDoor.BitsN
open Go.RowKit Mem BitsP BitsS BitsT OneB

set_option maxHeartbeats 1000000 in
theorem pow2_any (n : Nat) (w : World) (hn : n ≤ 63) : Calls Tryd.prog 50 #[.int .i64 n] w (fun e w' => e = .returned (.int .u64 ((2 ^ n : Nat) : Int)) ∧ w = w') := by
  go_enter Tryd.func50, Tryd.ntmps50
  go_wp2_with fail
  go_loop [3, 4] (fun p i => ∃ k : Nat, k ≤ n ∧ i = .int .i64 k ∧ p = .int .u64 ((2 ^ k : Nat) : Int)) (fun _ i => n - (intOf i).toNat)
  case atStart => exact ⟨0, Nat.zero_le _, rfl, rfl⟩
  case round =>
    obtain ⟨k, hk, rfl, rfl⟩ := hrel
    by_cases hlt : k < n
    · have h1 : 2 ^ (k + 1) = 2 ^ k * 2 := Nat.pow_succ ..
      have h2 : 2 ^ k ≤ 2 ^ 62 := Nat.pow_le_pow_right (by omega) (by omega)
      have H1 := Lib.hid h1
      clear h1
      generalize 2 ^ k = q at H1 h2 ⊢
      go_wp2_with fail
      go_round
      case rel => exact ⟨k + 1, by omega, by go_num, by rw [H1.out]; simp⟩
      case measure => simp [intOf]; omega
    · obtain rfl : k = n := by omega
      generalize hq : 2 ^ k = q
      have HQ := Lib.hid hq
      clear hq
      go_wp2_with fail
      go_ret
      exact ⟨ret_int (by rw [← HQ.out]; simp), rfl⟩
def ints (l : List Nat) : List Value := l.map fun n : Nat => Value.int .i64 (n : Int)
theorem elemInt : Elem Tryd.prog 23 3 1 8 := Elem.mk Tryd.underlying23 (by kernel_rfl : (Tryd.prog.info? 3).map (fun i => (i.zero, i.size, i.bytes)) = some (some (.int .i64 0), 1, 8)) rfl (by decide)
theorem bitList_snoc (n W k : Nat) (pre : List Nat) (h : pre ++ bitsOf n (k + 1) = bitsOf n W) : (pre ++ [n / 2 ^ k % 2]) ++ bitsOf n k = bitsOf n W := by rw [← h]; simp [bitsOf]
theorem u64_div (n q : Nat) (hn : n < 18446744073709551616) : IntKind.u64.wrap ((n : Int) / ((q : Nat) : Int)) = ((n / q : Nat) : Int) := by
  have h0 : (n : Int) / ((q : Nat) : Int) = ((n / q : Nat) : Int) := by simp
  have h1 : n / q ≤ n := Nat.div_le_self _ _
  rw [h0]
  generalize n / q = y at h1
  rw [IntKind.wrap_u64]; omega
theorem tmod_two (y : Nat) : ((y : Nat) : Int).tmod 2 = ((y % 2 : Nat) : Int) := by rw [Int.tmod_eq_emod_of_nonneg (by omega)]; omega
set_option maxRecDepth 100000 in
set_option maxHeartbeats 2000000 in
theorem bitList_any (n W : Nat) (w : World) (hn : n < 18446744073709551616) (hW : W ≤ 64) :
    Calls Tryd.prog 21 #[.int .u64 n, .int .i64 W] w (GivesRow w.heap.size 3 W (ints (bitsOf n W)) w) := by
  go_enter Tryd.func21, Tryd.ntmps21
  go_wp2_with fail
  go_loopw [5, 6] (fun v i wr => ∃ (k : Nat) (pre : List Nat), k ≤ W ∧ i = .int .i64 ((k : Int) - 1) ∧ pre ++ bitsOf n k = bitsOf n W ∧ wr.ownsRow w.heap.size 3 1 v (W - k) (ints pre) ∧ Below w.heap.size w wr) (fun _ i _ => (intOf i + 1).toNat)
  case atStart => exact ⟨W, [], Nat.le_refl _, rfl, rfl, by rw [Nat.sub_self]; exact World.ownsRow_nil _ _ _ _, Below.refl _ _⟩
  case round =>
    obtain ⟨k, pre, hk, rfl, hpre, hown, hb⟩ := hrel
    rcases k with _ | k
    · have e1 : pre = bitsOf n W := by simpa [bitsOf] using hpre
      have E := Lib.hid e1
      clear e1 hpre
      go_wp2_with fail
      go_ret
      exact ⟨_, rfl, by rw [← E.out]; exact hown, hb⟩
    · have CP := Lib.hid (fun w' => pow2_any k w' (by omega))
      have HP := Lib.hid (bitList_snoc n W k pre hpre)
      have hq : 0 < 2 ^ k := Nat.two_pow_pos k
      clear hpre
      have hb2 : n / 2 ^ k % 2 < 2 := by omega
      have he1 := u64_div n (2 ^ k) hn
      have he2 := tmod_two (n / 2 ^ k)
      have hbs := hb.size
      generalize n / 2 ^ k % 2 = x at hb2 HP he2
      generalize n / 2 ^ k = y at he1 he2
      generalize 2 ^ k = q at CP hq he1
      go_wp2_with (first
        | (refine (CP.out _).mono ?_
           rintro e w1 ⟨rfl, rfl⟩)
        | (at_builtin
           refine app elemInt rfl (.tmp 13) (.tmp 20) rfl w.heap.size _ (W - (k + 1)) _ rfl (hown.alloc _) (some ⟨wr.heap.size, 0, none⟩) 1 1 [.int .i64 (x : Int)] (wr.heap.size + 1) rfl rfl (Row.lit wr _ [.int .i64 (x : Int)] _ (by omega)) (by simp [Value.oneCell']) (fun e => by cases e) (by omega) (by omega) (by simp; omega) ?_
           intro v' w3 o3 g3))
      go_roundw
      case rel =>
        have hrow := fun j e => (hown.lt j e).1
        refine ⟨k, pre ++ [x], by omega, by go_num, HP.out, ?_, (below_new hb _).grown g3 (below_new hb _).size (fun j e => hrow j e)⟩
        rw [show W - k = W - (k + 1) + 1 from by omega]
        simpa [ints] using o3
      case measure => simp [intOf]
/-- A slice of ints reads as these numbers. -/
abbrev IRow (w : World) (B : Nat) (A : Option Addr) (l : List Nat) : Prop := Row w B A (ints l)
set_option maxHeartbeats 1000000 in
theorem bitNumber_any (A : Option Addr) (c : Nat) (l : List Nat) (w : World) (hr : IRow w w.heap.size A l) (hl : Bin l) (hn : l.length ≤ 64) :
    Calls Tryd.prog 60 #[.slice A l.length c] w (fun e w' => e = .returned (.int .u64 (num l)) ∧ w = w') := by
  go_enter Tryd.func60, Tryd.ntmps60
  go_wp2_with fail
  go_loop [3, 4] (fun v i => ∃ k : Nat, k ≤ l.length ∧ i = .int .i64 k ∧ v = .int .u64 (num (l.take k))) (fun _ i => l.length - (intOf i).toNat)
  case atStart => exact ⟨0, Nat.zero_le _, rfl, rfl⟩
  case round =>
    obtain ⟨k, hk, rfl, rfl⟩ := hrel
    by_cases hlt : k < l.length
    · obtain ⟨b, o, rfl, hbB, hcs⟩ := hr.open' (by simp [ints]; omega)
      have hc := hcs k (.int .i64 (l[k] : Int)) (by simp [ints, hlt])
      have htk : l.take (k + 1) = l.take k ++ [l[k]] := List.take_succ_eq_append_getElem hlt
      have hb2 : l[k] < 2 := hl _ (List.getElem_mem hlt)
      have hs := num_snoc (l.take k) l[k]
      rw [← htk] at hs
      have hN : num (l.take k) < 2 ^ (l.take k).length := num_lt (fun b hb => hl b (List.mem_of_mem_take hb))
      have hN2 : num (l.take k) < 9223372036854775808 := Nat.lt_of_lt_of_le hN (Nat.le_trans (Nat.pow_le_pow_right (by omega) (show (l.take k).length ≤ 63 by rw [List.length_take]; omega)) (by decide))
      have HS := Lib.hid hs
      clear hs htk hcs hN
      generalize l[k] = x at hc hb2 HS
      generalize num (l.take k) = N at HS hN2
      go_wp2_with fail
      go_round
      case rel => exact ⟨k + 1, by omega, by go_num, by rw [HS.out]; simp⟩
      case measure => simp [intOf]; omega
    · obtain rfl : k = l.length := by omega
      rw [List.take_length]
      go_wp2_with fail
      go_ret
      exact ⟨rfl, rfl⟩
/-- The first k bits of a byte, and noughts. -/
def part (l : List Nat) (a : Nat) : Nat → Nat
  | 0 => 0
  | k + 1 => part l a k * 2 + l.getD (a + k) 0
theorem part_byte (l : List Nat) (j : Nat) : part l (8 * j) 8 = byteAt l j := by
  simp only [part, byteAt, Nat.add_zero]; omega
theorem part_lt {l : List Nat} (h : Bin l) (a k : Nat) : part l a k < 2 ^ k := by
  induction k with
  | zero => simp [part]
  | succ k ih =>
    have := h.getD (a + k)
    simp only [part]; rw [Nat.pow_succ]; omega
def bytesOf (l : List Nat) (j : Nat) : ByteArray := ⟨((List.range j).map fun i => UInt8.ofNat (byteAt l i)).toArray⟩
theorem bytesOf_succ (l : List Nat) (j : Nat) : bytesOf l (j + 1) = bytesOf l j ++ ⟨#[UInt8.ofNat (byteAt l j)]⟩ := by
  apply ByteArray.ext
  simp [bytesOf, List.range_succ, ByteArray.data_append]
theorem bytesOf_all (l : List Nat) : bytesOf l ((l.length + 7) / 8) = btx l := by
  unfold bytesOf btx packB
  rw [List.map_map]; rfl
theorem bytesOf_size (l : List Nat) (j : Nat) : (bytesOf l j).size = j := by simp [bytesOf, ByteArray.size]
set_option maxHeartbeats 4000000 in
theorem bitBytes_any (A : Option Addr) (c : Nat) (l : List Nat) (w : World) (hr : IRow w w.heap.size A l) (hl : Bin l) (hn : l.length ≤ 140737488355328) :
    Calls Tryd.prog 26 #[.slice A l.length c] w (Gives (.string (btx l)) w) := by
  go_enter Tryd.func26, Tryd.ntmps26
  go_wp2_with fail
  go_loopw [3, 4] (fun s a wr => ∃ j : Nat, j ≤ (l.length + 7) / 8 ∧ a = .int .i64 ((8 * j : Nat) : Int) ∧ s = .string (bytesOf l j) ∧ Below w.heap.size w wr) (fun _ a _ => l.length + 8 - (intOf a).toNat)
  case atStart => exact ⟨0, Nat.zero_le _, rfl, rfl, Below.refl _ _⟩
  case round =>
    obtain ⟨j, hj, rfl, rfl, hb⟩ := hrel
    have hsz := bytesOf_size l j
    by_cases hlt : 8 * j < l.length
    · have hps := bytesOf_succ l j
      have hpb := part_byte l j
      have hbl := byteAt_lt hl j
      have HPS := Lib.hid hps; have HPB := Lib.hid hpb
      have HSZ := Lib.hid hsz
      have hszi : (bytesOf l j).size ≤ 140737488355328 := by omega
      clear hps hpb hsz
      generalize bytesOf l j = bs at HPS hszi HSZ ⊢
      generalize ha : 8 * j = a at hlt HPB ⊢
      have HA := Lib.hid ha
      clear ha
      go_wp2_with fail
      obtain ⟨wo, hwo⟩ : ∃ wo : World, wo = wr := ⟨_, rfl⟩
      subst hwo
      go_loop [5, 6] (fun n i => ∃ k : Nat, k ≤ 8 ∧ i = .int .i64 k ∧ n = .int .i64 ((part l a k : Nat) : Int)) (fun _ i => 8 - (intOf i).toNat)
      case atStart => exact ⟨0, by omega, rfl, rfl⟩
      case round =>
        obtain ⟨k, hk, rfl, rfl⟩ := hrel
        by_cases h8 : k < 8
        · have hp1 : part l a (k + 1) = part l a k * 2 + l.getD (a + k) 0 := rfl
          have hp2 := part_lt hl a k
          have hp3 : 2 ^ k ≤ 2 ^ 8 := Nat.pow_le_pow_right (by omega) (by omega)
          have hp4 : part l a k < 256 := by omega
          have HP1 := Lib.hid hp1
          clear hp1 hp2 hp3
          generalize part l a k = x at hp4 HP1
          by_cases hin : a + k < l.length
          · obtain ⟨b, o, rfl, hbB, hcs⟩ := (hr.below hb).open' (by simp [ints]; omega)
            have hc := hcs (a + k) (.int .i64 (l.getD (a + k) 0 : Int)) (by simp [ints, hin])
            have hb2 := hl.getD (a + k)
            generalize l.getD (a + k) 0 = y at hc hb2 HP1
            have hw2 : (a : Int) + (k : Int) < (l.length : Int) := by omega
            have hw3 : ((a : Int) + (k : Int)).toNat = a + k := by omega
            clear hcs
            go_wp2_with fail
            go_round
            case rel => exact ⟨k + 1, by omega, by go_num, by rw [HP1.out]; simp⟩
            case measure => simp [intOf]; omega
          · have hz := getD_beyond l (a + k) (by omega)
            rw [hz] at HP1
            clear hz
            have hw2 : ¬ (a : Int) + (k : Int) < (l.length : Int) := by omega
            go_wp2_with fail
            go_round
            case rel => exact ⟨k + 1, by omega, by go_num, by rw [HP1.out]; simp⟩
            case measure => simp [intOf]; omega
        · obtain rfl : k = 8 := by omega
          rw [HPB.out]
          have hbs := hb.size
          generalize byteAt l j = x at hbl HPS
          go_wp2_with fail
          refine (oneByte_any _ _ (by omega) (by omega)).mono ?_
          rintro e w1 ⟨rfl, hb1⟩
          have hx : ((x : Nat) : Int).toNat = x := by omega
          rw [hx]
          go_wp2_with fail
          go_roundw
          case rel => exact ⟨j + 1, by have := HA.out; omega, by have := HA.out; rw [show 8 * (j + 1) = a + 8 from by omega]; simp, by rw [HPS.out], below_cat hb hb1⟩
          case measure => simp [intOf]; omega
    · have e : j = (l.length + 7) / 8 := by omega
      have hall := bytesOf_all l
      rw [← e] at hall
      have HALL := Lib.hid hall
      clear hall e
      go_wp2_with fail
      go_ret
      exact ⟨ret_str HALL.out, hb⟩
end Go.Proofs.YtfhfpanemalbmaaDoor.BitsN
