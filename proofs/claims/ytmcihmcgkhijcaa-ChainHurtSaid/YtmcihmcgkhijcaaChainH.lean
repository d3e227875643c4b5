/- The walks of chain.heads, Head, Verify and of the reference's HeadOf. -/
import Derived.Test.YtmcihmcgkhijcaaChainW
import Derived.OwnWalk
import Derived.Laws.AppendOwn
import Derived.Laws.OwnMore
import Derived.Maps.AppendAt
import Derived.RangeFuncBox
import Derived.Lib.Strings
namespace Go.Proofs.Ytmcihmcgkhijcaa.ChainH
open Go.RowKit ChainW

/-- A slice of strings, below block B. -/
def Strs (w : World) (B : Nat) (A : Option Addr) (L : List ByteArray) : Prop := 0 < L.length → ∃ b o, A = some ⟨b, o, none⟩ ∧ b < B ∧ ∀ j (hj : j < L.length), w.cell? ⟨b, o + j, none⟩ = some (.string L[j])
theorem Strs.below {w w' : World} {B : Nat} {A : Option Addr} {L : List ByteArray} (h : Strs w B A L) (hb : Below B w w') : Strs w' B A L := fun hl => by
  obtain ⟨b, o, e, hlt, hc⟩ := h hl
  exact ⟨b, o, e, hlt, fun j hj => (hb.cell (p := ⟨b, o + j, none⟩) hlt).trans (hc j hj)⟩
theorem Strs.more {w : World} {B B' : Nat} {A : Option Addr} {L : List ByteArray} (h : Strs w B A L) (hB : B ≤ B') : Strs w B' A L := fun hl => by
  obtain ⟨b, o, e, hlt, hc⟩ := h hl
  exact ⟨b, o, e, by omega, hc⟩

def head (L : List ByteArray) : Nat := L.foldl (fun h s => fnv (link h s.data.toList)) (fnv [])
theorem head_snoc (L : List ByteArray) (s : ByteArray) : head (L ++ [s]) = fnv (link (head L) s.data.toList) := foldl_snoc _ _ L s
theorem head_lt (L : List ByteArray) : head L < 18446744073709551616 := by
  rcases List.eq_nil_or_concat L with rfl | ⟨a, c, rfl⟩
  · exact hash_lt []
  · rw [List.concat_eq_append, head_snoc]; exact hash_lt _
def headsL (L : List ByteArray) (k : Nat) : List Value := (List.range (k + 1)).map fun j => Value.int .u64 (head (L.take j) : Int)
theorem headsL_succ (L : List ByteArray) (k : Nat) : headsL L (k + 1) = headsL L k ++ [.int .u64 (head (L.take (k + 1)) : Int)] := by
  unfold headsL; rw [List.range_succ, List.map_append]; rfl
theorem headsL_len (L : List ByteArray) (k : Nat) : (headsL L k).length = k + 1 := by simp [headsL]
theorem headsL_at (L : List ByteArray) (k j : Nat) (h : j ≤ k) : (headsL L k)[j]? = some (.int .u64 (head (L.take j) : Int)) := by
  simp [headsL, List.getElem?_map, List.getElem?_range (show j < k + 1 by omega)]
theorem take_succ_at (L : List ByteArray) (k : Nat) (h : k < L.length) : L.take (k + 1) = L.take k ++ [L[k]] := List.take_succ_eq_append_getElem h

theorem size_mk (l : List UInt8) : (⟨l.toArray⟩ : ByteArray).size = l.length := by simp [ByteArray.size]
theorem own_below {w w' : World} {base : Nat} {e : TypeId} {size n : Nat} {v : Value} {xs : List Value} (h : w.ownsRow base e size v n xs) (hb : Below w.heap.size w w') : w'.ownsRow base e size v n xs :=
  h.kept (row := none) ⟨hb.os, hb.tape, hb.output, hb.size, fun i hi _ => hb.block i hi⟩ (by
    rcases hv : v.ownBlock with _ | k
    · exact .inl rfl
    · exact .inr (by simp))
theorem info26 : (Try.prog.info? 26).map (fun i => (i.zero, i.size, i.bytes)) = some (some (.int .u64 0), 1, 8) := by kernel_rfl
def HRel (L : List ByteArray) (w : World) (k : Nat) (v : Value) (wr : World) : Prop := wr.ownsRow w.heap.size 26 1 v (k + 1) (headsL L k) ∧ Below w.heap.size w wr

set_option maxHeartbeats 2000000 in
theorem heads_any (A : Option Addr) (c : Nat) (L : List ByteArray) (w : World) (hL : Strs w w.heap.size A L) (hn : L.length ≤ 8796093022208) (hz : ∀ s ∈ L, s.size ≤ 140737488351232) :
    Calls Try.prog 57 #[.slice A L.length c] w fun e w' => ∃ v, e = .returned v ∧ HRel L w L.length v w' := by
  obtain ⟨i0, hi, hz0, hz1, hz2⟩ := info_parts info26
  go_enter Try.func57, Try.ntmps57
  go_wp2_with fail
  refine (hash_any _ _ (by decide)).mono ?_
  rintro e w1 ⟨rfl, hb1⟩
  go_wp2_with fail
  go_loopw [3, 10] (fun v i wr => ∃ k : Nat, k ≤ L.length ∧ i = .int .i64 k ∧ HRel L w k v wr) (fun _ i _ => L.length - (intOf i).toNat)
  case atStart => exact ⟨0, Nat.zero_le _, rfl, World.ownsRow_lit _ _ 1 (by have := hb1.size; simpa using this) (by decide) rfl, hb1.alloc (by have := hb1.size; simpa using this) _⟩
  case round =>
    obtain ⟨k, hk, rfl, hown, hb⟩ := hrel
    by_cases hlt : k < L.length
    · obtain ⟨g, cap, rfl⟩ := ownsRow_succ hown
      obtain ⟨b, o, rfl, hbB, hcs⟩ := hL.below hb (by omega)
      have hcS := hcs k hlt
      have hcH : wr.cell? ⟨g, k, none⟩ = some (.int .u64 (head (L.take k) : Int)) := by rw [hown.cellAt k (by omega)]; exact headsL_at L k k (Nat.le_refl _)
      have hsz := hz L[k] (List.getElem_mem hlt)
      have hh := head_lt (L.take k)
      have hs2 : head (L.take (k + 1)) = fnv (link (head (L.take k)) L[k].data.toList) := by rw [take_succ_at L k hlt, head_snoc]
      have hs3 := headsL_succ L k
      rw [hs2] at hs3
      have HS := Lib.hid hs3; clear hs2 hs3 hcs
      have hls : (link (head (L.take k)) L[k].data.toList).length ≤ 140737488351240 := by
        unfold link; rw [List.length_append, ← Lib.size_eq]; have : (be8 (head (L.take k))).length = 8 := rfl; omega
      generalize L[k] = s at hcS hsz HS hls
      generalize head (L.take k) = h at hcH hh HS hls
      have hbs := hb.size
      go_wp2_with fail
      refine (link_any h s _ hh (by omega)).mono ?_
      rintro e w2 ⟨rfl, hb2⟩
      go_wp2_with fail
      refine (hash_any _ _ (by rw [size_mk]; omega)).mono ?_
      rintro e w3 ⟨rfl, hb3⟩
      have hown3 := own_below (own_below hown hb2) hb3
      have hB3 := (hb.trans (hb2.mono hbs)).trans (hb3.mono (by have := hb2.size; omega))
      go_wp2_with (first
        | (at_builtin
           refine wpList_append_own _ rfl _ _ 44 rfl w.heap.size 26 i0 (.int .u64 0) 1 8 Try.underlying44 hi hz0 hz1 hz2 rfl (by decide) _ _ _ rfl (hown3.alloc _) ⟨w3.heap.size, 0, none⟩ 1 1 [.int .u64 (fnv (link h s.data.toList) : Int)] rfl rfl (cell_one_new _ _ _) (by simp [Value.oneCell']) (by unfold maxLen; omega) (by omega) (by have := hB3.size; simp; omega) ?_
           intro v' w4 hown4 hg4 _))
      have hge := (hown3.lt g rfl).1
      go_roundw
      case rel => exact ⟨k + 1, by omega, by go_num, by rw [HS.out]; exact hown4, (hB3.alloc hB3.size _).grown hg4 (by simp; have := hB3.size; omega) (fun j e => by cases e; exact hge)⟩
      case measure => simp [intOf]; omega
    · obtain rfl : k = L.length := by omega
      go_wp2_with fail
      go_ret
      exact ⟨_, rfl, hown, hb⟩

set_option maxHeartbeats 1000000 in
theorem head_any (A : Option Addr) (c : Nat) (L : List ByteArray) (w : World) (hL : Strs w w.heap.size A L) (hn : L.length ≤ 8796093022208) (hz : ∀ s ∈ L, s.size ≤ 140737488351232) :
    Calls Try.prog 29 #[.slice A L.length c] w (VPost (.int .u64 (head L)) w) := by
  go_enter Try.func29, Try.ntmps29
  go_wp2_with fail
  refine (heads_any A c L w hL hn hz).mono ?_
  rintro e w1 ⟨v, rfl, hown, hb⟩
  obtain ⟨g, cap, rfl⟩ := ownsRow_succ hown
  have hc : w1.cell? ⟨g, L.length, none⟩ = some (.int .u64 (head L : Int)) := by
    rw [hown.cellAt L.length (by omega), headsL_at L L.length L.length (Nat.le_refl _), List.take_length]
  go_wp2_with fail
  go_ret
  exact ⟨rfl, hb⟩

set_option maxHeartbeats 1000000 in
theorem verify_any (A : Option Addr) (c : Nat) (L : List ByteArray) (h : Int) (w : World) (hL : Strs w w.heap.size A L) (hn : L.length ≤ 8796093022208) (hz : ∀ s ∈ L, s.size ≤ 140737488351232) :
    Calls Try.prog 31 #[.slice A L.length c, .int .u64 h] w (VPost (.bool ((head L : Int) == h)) w) := by
  go_enter Try.func31, Try.ntmps31
  go_wp2_with fail
  refine (head_any A c L w hL hn hz).mono ?_
  rintro e w1 ⟨rfl, hb⟩
  go_wp2_with fail
  go_ret
  exact ⟨rfl, hb⟩
end Go.Proofs.Ytmcihmcgkhijcaa.ChainH
