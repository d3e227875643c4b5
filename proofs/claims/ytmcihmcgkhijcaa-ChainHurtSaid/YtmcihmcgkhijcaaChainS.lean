/- The walks of the reference's SameTexts and ByteText. -/
import Derived.Test.YtmcihmcgkhijcaaChainE
import Derived.BigQuiet
namespace Go.Proofs.Ytmcihmcgkhijcaa.ChainS
open Go.RowKit ChainW ChainH ChainR ChainD
theorem below_drewN {B : Nat} {a w : World} (h : Below B a w) (n : Nat) : Below B a (w.drewN n) := by
  induction n with
  | zero => exact h
  | succ n ih => exact ih.drew

set_option maxHeartbeats 2000000 in
theorem same_any (A : Option Addr) (c : Nat) (L : List ByteArray) (A' : Option Addr) (c' : Nat) (L' : List ByteArray) (w : World) (hL : Strs w w.heap.size A L) (hn : L.length ≤ 8796093022208) (hL' : Strs w w.heap.size A' L') (hn' : L'.length ≤ 8796093022208) :
    Calls Try.prog 32 #[.slice A L.length c, .slice A' L'.length c'] w fun e w' => (∃ b : Bool, (b = true ↔ L = L') ∧ e = .returned (.bool b)) ∧ Below w.heap.size w w' := by
  by_cases hl : L.length = L'.length
  · have hb : ((L.length : Int) != (L'.length : Int)) = false := by simp [hl]
    have HL := Lib.hid hl; clear hl
    go_enter Try.func32, Try.ntmps32
    go_wp2_with fail
    go_loopw [5] (fun i wr => ∃ k : Nat, k ≤ L.length ∧ i = .int .i64 k ∧ L.take k = L'.take k ∧ Below w.heap.size w wr) (fun i _ => L.length - (intOf i).toNat)
    case atStart => exact ⟨0, Nat.zero_le _, rfl, rfl, Below.refl _ _⟩
    case round =>
      obtain ⟨k, hk, rfl, hpre, hbw⟩ := hrel
      have HP := Lib.hid hpre; clear hpre
      by_cases hlt : k < L.length
      · have hlt' : k < L'.length := by have := HL.out; omega
        obtain ⟨b, o, rfl, hbB, hcs⟩ := hL.below hbw (by omega)
        obtain ⟨b', o', rfl, hbB', hcs'⟩ := hL'.below hbw (by omega)
        have c1 := hcs k hlt
        have c2 := hcs' k hlt'
        generalize hs : L[k] = s at c1
        generalize ht : L'[k] = t at c2
        have HS := Lib.hid hs; have HT := Lib.hid ht; clear hs ht hcs hcs'
        have hw1 : (0 : Int) ≤ (k : Int) := by omega
        have hw2 : (k : Int) < (L.length : Int) := by omega
        have hw3 : (k : Int) < (L'.length : Int) := by omega
        by_cases hst : s = t
        · have hq : (s.toList == t.toList) = true := by subst hst; simp
          have HE := Lib.hid hst; clear hst
          go_wp2_with fail
          go_quiet (fail)
          go_wp2_with fail
          go_roundw
          case rel => exact ⟨k + 1, by omega, by go_num, by rw [take_succ_at L k hlt, take_succ_at L' k hlt', HP.out, HS.out, HT.out, HE.out], below_drewN hbw _⟩
          case measure => simp [intOf]; omega
        · have hq : (s.toList == t.toList) = false := ne_toList hst
          have HE := Lib.hid hst; clear hst
          go_wp2_with fail
          go_quiet (fail)
          go_wp2_with fail
          go_ret
          refine ⟨⟨false, ⟨fun e => (by cases e), fun e => absurd ?_ HE.out⟩, rfl⟩, below_drewN hbw _⟩
          rw [← HS.out, ← HT.out]
          subst e
          rfl
      · go_wp2_with fail
        go_ret
        refine ⟨⟨true, ⟨fun _ => ?_, fun _ => rfl⟩, rfl⟩, hbw⟩
        have hp := HP.out
        have h1 : k = L.length := by omega
        have h2 := HL.out
        rw [h1, List.take_length, h2, List.take_length] at hp
        exact hp
  · have hb : ((L.length : Int) != (L'.length : Int)) = true := by simp; omega
    have HL := Lib.hid hl; clear hl
    go_enter Try.func32, Try.ntmps32
    go_wp2_with fail
    go_ret
    exact ⟨⟨false, ⟨fun e => (by cases e), fun e => absurd (congrArg List.length e) HL.out⟩, rfl⟩, Below.refl _ _⟩

theorem byteText_any (u : UInt8) (w : World) :
    Calls Try.prog 33 #[.int .u8 u.toNat] w (VPost (.string ⟨#[u]⟩) w) := by
  have kb : (convert 74 9 (.slice (some ⟨w.heap.size, 0, none⟩) 1 1)).run Try.prog (w.alloc (.cells #[.int .u8 u.toNat] 5)) = .ok (.string ⟨#[u]⟩) (w.alloc (.cells #[.int .u8 u.toNat] 5)) :=
    run_convert_bytes_back (P := Try.prog) _ 74 9 5 ⟨w.heap.size, 0, none⟩ 1 [u] Try.underlying74 Try.underlying5 Try.underlying9 (fun j hj => by
      obtain rfl : j = 0 := by simpa using hj
      simp only [List.getElem_cons_zero]
      simp [Addr.add, World.cell?_alloc_new])
  have hu : u.toNat < 256 := u.toNat_lt
  go_enter Try.func33, Try.ntmps33
  go_wp2_with fail
  go_ret
  exact ⟨rfl, (Below.refl _ _).alloc (Nat.le_refl _) _⟩
end Go.Proofs.Ytmcihmcgkhijcaa.ChainS
