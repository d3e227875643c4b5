/- The walks of the reference's textBits, bitBytes, SameNums. -/
import Derived.Test.YtmcihmcgkhijcaaBitsU
namespace Go.Proofs.Ytmcihmcgkhijcaa.BitsV
open Go.RowKit Mem BitsP BitsS BitsT BitsW BitsR OneB BitsU

theorem tbits_snoc (l : List UInt8) (c : UInt8) : tbits (l ++ [c]) = tbits l ++ bitsOf c.toNat 8 := by simp [tbits]
theorem take_snocB (s : ByteArray) (k : Nat) (h : k < s.size) : s.data.toList.take (k + 1) = s.data.toList.take k ++ [s[k]] := by
  rw [List.take_succ_eq_append_getElem (by simpa using h)]; rfl
set_option maxHeartbeats 2000000 in
theorem textBits_any (s : ByteArray) (w : World) (hs : s.size ≤ 2199023255552) :
    Calls Try.prog 67 #[.string s] w (GivesRow w.heap.size 3 (8 * s.size) (ints (tbits s.data.toList)) w) := by
  go_enter Try.func67, Try.ntmps67
  go_wp2_with fail
  go_loopw [3, 4] (fun v i wr => ∃ k : Nat, k ≤ s.size ∧ i = .int .i64 k ∧ wr.ownsRow w.heap.size 3 1 v (8 * k) (ints (tbits (s.data.toList.take k))) ∧ Below w.heap.size w wr) (fun _ i _ => s.size - (intOf i).toNat)
  case atStart => exact ⟨0, Nat.zero_le _, rfl, World.ownsRow_nil _ _ _ _, Below.refl _ _⟩
  case round =>
    obtain ⟨k, hk, rfl, hown, hb⟩ := hrel
    by_cases hlt : k < s.size
    · have htk := take_snocB s k hlt
      have hc256 : s[k].toNat < 256 := UInt8.toNat_lt _
      have hsn := tbits_snoc (s.data.toList.take k) s[k]
      rw [← htk] at hsn
      have HS := Lib.hid hsn
      clear hsn htk
      have hk1 : (0 : Int) ≤ (k : Int) := by omega
      have hk2 : (k : Int) < (s.size : Int) := by omega
      go_wp2_with fail
      refine (bitList_any s[k].toNat 8 _ (by omega) (by omega)).mono ?_
      rintro e w1 ⟨v1, rfl, o1, hb1⟩
      obtain ⟨A1, c1, rfl, n1, _, r1⟩ := own_row o1
      have hown1 := own_below hown hb1
      have hB1 := below_cat hb hb1
      have hbl := bitsOf_len s[k].toNat 8
      generalize bitsOf s[k].toNat 8 = q at o1 r1 HS hbl
      have HBL := Lib.hid hbl
      clear hbl
      go_wp2_with (first
        | (at_builtin
           refine app elemInt rfl (.tmp 11) (.tmp 16) rfl w.heap.size _ (8 * k) _ rfl hown1 A1 8 c1 (ints q) w1.heap.size rfl (by simp [ints, HBL.out]) r1 (by simp [ints, Value.oneCell']) (fun e => (n1 e).1) (by omega) (by omega) hB1.size ?_
           intro v' w3 o3 g3))
      go_roundw
      case rel =>
        have hrow := fun j e => (hown1.lt j e).1
        refine ⟨k + 1, by omega, by go_num, ?_, hB1.grown g3 hB1.size (fun j e => hrow j e)⟩
        rw [HS.out, show 8 * (k + 1) = 8 * k + 8 from by omega]
        simpa [ints] using o3
      case measure => simp [intOf]; omega
    · obtain rfl : k = s.size := by omega
      rw [List.take_of_length_le (by simp)] at hown
      go_wp2_with fail
      go_ret
      exact ⟨_, rfl, hown, hb⟩

set_option maxHeartbeats 2000000 in
theorem sameNums_any (A : Option Addr) (c : Nat) (L : List Nat) (A' : Option Addr) (c' : Nat) (L' : List Nat) (w : World) (hL : Row w w.heap.size A (u64s L)) (hn : L.length ≤ 140737488355328) (hL' : Row w w.heap.size A' (u64s L')) (hn' : L'.length ≤ 140737488355328) :
    Calls Try.prog 39 #[.slice A L.length c, .slice A' L'.length c'] w (Gives (.bool (decide (L = L'))) w) := by
  by_cases hl : L.length = L'.length
  · have hb : ((L.length : Int) != (L'.length : Int)) = false := by simp [hl]
    have HL := Lib.hid hl; clear hl
    go_enter Try.func39, Try.ntmps39
    go_wp2_with fail
    go_loopw [5] (fun i wr => ∃ k : Nat, k ≤ L.length ∧ i = .int .i64 k ∧ L.take k = L'.take k ∧ Below w.heap.size w wr) (fun i _ => L.length - (intOf i).toNat)
    case atStart => exact ⟨0, Nat.zero_le _, rfl, rfl, Below.refl _ _⟩
    case round =>
      obtain ⟨k, hk, rfl, hpre, hbw⟩ := hrel
      have HP := Lib.hid hpre; clear hpre
      by_cases hlt : k < L.length
      · have hlt' : k < L'.length := by have := HL.out; omega
        obtain ⟨b, o, rfl, hbB, hcs⟩ := (hL.below hbw).open' (by simp [u64s]; omega)
        obtain ⟨b', o', rfl, hbB', hcs'⟩ := (hL'.below hbw).open' (by simp [u64s]; omega)
        have c1 := hcs k (.int .u64 (L[k] : Int)) (by simp [u64s, hlt])
        have c2 := hcs' k (.int .u64 (L'[k] : Int)) (by simp [u64s, hlt'])
        have t1 : L.take (k + 1) = L.take k ++ [L[k]] := List.take_succ_eq_append_getElem hlt
        have t2 : L'.take (k + 1) = L'.take k ++ [L'[k]] := List.take_succ_eq_append_getElem hlt'
        have hex : L = L' → L[k] = L'[k] := fun e => by subst e; rfl
        generalize L[k] = s at c1 t1 hex
        generalize L'[k] = t at c2 t2 hex
        have T1 := Lib.hid t1; have T2 := Lib.hid t2; have HX := Lib.hid hex; clear t1 t2 hcs hcs' hex
        have hw1 : (0 : Int) ≤ (k : Int) := by omega
        have hw2 : (k : Int) < (L.length : Int) := by omega
        have hw3 : (k : Int) < (L'.length : Int) := by omega
        by_cases hst : s = t
        · have hq : ((s : Int) != (t : Int)) = false := by subst hst; simp
          have HE := Lib.hid hst; clear hst
          go_wp2_with fail
          go_quiet (fail)
          go_wp2_with fail
          go_roundw
          case rel => exact ⟨k + 1, by omega, by go_num, by rw [T1.out, T2.out, HP.out, HE.out], below_drewN hbw _⟩
          case measure => simp [intOf]; omega
        · have hq : ((s : Int) != (t : Int)) = true := by simp; omega
          have HE := Lib.hid hst; clear hst
          go_wp2_with fail
          go_quiet (fail)
          go_wp2_with fail
          go_ret
          exact ⟨ret_bool (decide_eq_false (fun e => HE.out (HX.out e))).symm, below_drewN hbw _⟩
      · go_wp2_with fail
        go_ret
        refine ⟨ret_bool (decide_eq_true ?_).symm, hbw⟩
        have hp := HP.out
        have h1 : k = L.length := by omega
        have h2 := HL.out
        rw [h1, List.take_length, h2, List.take_length] at hp
        exact hp
  · have hb : ((L.length : Int) != (L'.length : Int)) = true := by simp; omega
    have HL := Lib.hid hl; clear hl
    go_enter Try.func39, Try.ntmps39
    go_wp2_with fail
    go_ret
    exact ⟨ret_bool (decide_eq_false (fun e => HL.out (congrArg List.length e))).symm, Below.refl _ _⟩

/-- The first k bits of a byte, and noughts. -/
def part (l : List Nat) (a : Nat) : Nat → Nat
  | 0 => 0
  | k + 1 => part l a k * 2 + l.getD (a + k) 0
theorem part_byte (l : List Nat) (j : Nat) : part l (8 * j) 8 = byteAt l j := by
  simp only [part, byteAt, Nat.add_zero]; omega
theorem part_lt {l : List Nat} (h : Bin l) (a k : Nat) : part l a k < 2 ^ k := by
  induction k with
  | zero => simp [part]
  | succ k ih =>
    have := h.getD (a + k)
    simp only [part]; rw [Nat.pow_succ]; omega
def bytesOf (l : List Nat) (j : Nat) : ByteArray := ⟨((List.range j).map fun i => UInt8.ofNat (byteAt l i)).toArray⟩
theorem bytesOf_succ (l : List Nat) (j : Nat) : bytesOf l (j + 1) = bytesOf l j ++ ⟨#[UInt8.ofNat (byteAt l j)]⟩ := by
  apply ByteArray.ext
  simp [bytesOf, List.range_succ, ByteArray.data_append]
theorem bytesOf_all (l : List Nat) : bytesOf l ((l.length + 7) / 8) = btx l := by
  unfold bytesOf btx packB
  rw [List.map_map]; rfl
theorem bytesOf_size (l : List Nat) (j : Nat) : (bytesOf l j).size = j := by simp [bytesOf, ByteArray.size]
set_option maxHeartbeats 4000000 in
theorem bitBytes_any (A : Option Addr) (c : Nat) (l : List Nat) (w : World) (hr : IRow w w.heap.size A l) (hl : Bin l) (hn : l.length ≤ 140737488355328) :
    Calls Try.prog 66 #[.slice A l.length c] w (Gives (.string (btx l)) w) := by
  go_enter Try.func66, Try.ntmps66
  go_wp2_with fail
  go_loopw [3, 4] (fun s a wr => ∃ j : Nat, j ≤ (l.length + 7) / 8 ∧ a = .int .i64 ((8 * j : Nat) : Int) ∧ s = .string (bytesOf l j) ∧ Below w.heap.size w wr) (fun _ a _ => l.length + 8 - (intOf a).toNat)
  case atStart => exact ⟨0, Nat.zero_le _, rfl, rfl, Below.refl _ _⟩
  case round =>
    obtain ⟨j, hj, rfl, rfl, hb⟩ := hrel
    have hsz := bytesOf_size l j
    by_cases hlt : 8 * j < l.length
    · have hps := bytesOf_succ l j
      have hpb := part_byte l j
      have hbl := byteAt_lt hl j
      have HPS := Lib.hid hps; have HPB := Lib.hid hpb
      have HSZ := Lib.hid hsz
      have hszi : (bytesOf l j).size ≤ 140737488355328 := by omega
      clear hps hpb hsz
      generalize bytesOf l j = bs at HPS hszi HSZ ⊢
      generalize ha : 8 * j = a at hlt HPB ⊢
      have HA := Lib.hid ha
      clear ha
      go_wp2_with fail
      obtain ⟨wo, hwo⟩ : ∃ wo : World, wo = wr := ⟨_, rfl⟩
      subst hwo
      go_loop [5, 6] (fun n i => ∃ k : Nat, k ≤ 8 ∧ i = .int .i64 k ∧ n = .int .i64 ((part l a k : Nat) : Int)) (fun _ i => 8 - (intOf i).toNat)
      case atStart => exact ⟨0, by omega, rfl, rfl⟩
      case round =>
        obtain ⟨k, hk, rfl, rfl⟩ := hrel
        by_cases h8 : k < 8
        · have hp1 : part l a (k + 1) = part l a k * 2 + l.getD (a + k) 0 := rfl
          have hp2 := part_lt hl a k
          have hp3 : 2 ^ k ≤ 2 ^ 8 := Nat.pow_le_pow_right (by omega) (by omega)
          have hp4 : part l a k < 256 := by omega
          have HP1 := Lib.hid hp1
          clear hp1 hp2 hp3
          generalize part l a k = x at hp4 HP1
          by_cases hin : a + k < l.length
          · obtain ⟨b, o, rfl, hbB, hcs⟩ := (hr.below hb).open' (by simp [ints]; omega)
            have hc := hcs (a + k) (.int .i64 (l.getD (a + k) 0 : Int)) (by simp [ints, hin])
            have hb2 := hl.getD (a + k)
            generalize l.getD (a + k) 0 = y at hc hb2 HP1
            have hw2 : (a : Int) + (k : Int) < (l.length : Int) := by omega
            have hw3 : ((a : Int) + (k : Int)).toNat = a + k := by omega
            clear hcs
            go_wp2_with fail
            go_round
            case rel => exact ⟨k + 1, by omega, by go_num, by rw [HP1.out]; simp⟩
            case measure => simp [intOf]; omega
          · have hz := getD_beyond l (a + k) (by omega)
            rw [hz] at HP1
            clear hz
            have hw2 : ¬ (a : Int) + (k : Int) < (l.length : Int) := by omega
            go_wp2_with fail
            go_round
            case rel => exact ⟨k + 1, by omega, by go_num, by rw [HP1.out]; simp⟩
            case measure => simp [intOf]; omega
        · obtain rfl : k = 8 := by omega
          rw [HPB.out]
          have hbs := hb.size
          generalize byteAt l j = x at hbl HPS
          go_wp2_with fail
          refine (oneByte_any _ _ (by omega) (by omega)).mono ?_
          rintro e w1 ⟨rfl, hb1⟩
          have hx : ((x : Nat) : Int).toNat = x := by omega
          rw [hx]
          go_wp2_with fail
          go_roundw
          case rel => exact ⟨j + 1, by have := HA.out; omega, by have := HA.out; rw [show 8 * (j + 1) = a + 8 from by omega]; simp, by rw [HPS.out], below_cat hb hb1⟩
          case measure => simp [intOf]; omega
    · have e : j = (l.length + 7) / 8 := by omega
      have hall := bytesOf_all l
      rw [← e] at hall
      have HALL := Lib.hid hall
      clear hall e
      go_wp2_with fail
      go_ret
      exact ⟨ret_str HALL.out, hb⟩
end Go.Proofs.Ytmcihmcgkhijcaa.BitsV
