/- The walks of the reference's HeadOf, lastLink, withoutLast, CollideOf and SameTexts. -/
import Derived.Test.YtmcihmcgkhijcaaChainH
import Derived.Test.YtmcihmcgkhijcaaSeq
import Derived.IntWalk
namespace Go.Proofs.Ytmcihmcgkhijcaa.ChainR
open Go.RowKit ChainW ChainH

theorem link_len (h : Nat) (l : List UInt8) : (link h l).length = 8 + l.length := by unfold link; rw [List.length_append]; rfl
/-- The last of a slice of strings, and what is ahead of it. -/
theorem Strs.last {w : World} {B : Nat} {A : Option Addr} {L : List ByteArray} {s : ByteArray} (h : Strs w B A (L ++ [s])) : ∃ b o, A = some ⟨b, o, none⟩ ∧ b < B ∧ w.cell? ⟨b, o + L.length, none⟩ = some (.string s) ∧ Strs w B A L := by
  obtain ⟨b, o, e, hlt, hc⟩ := h (by simp)
  refine ⟨b, o, e, hlt, ?_, fun _ => ⟨b, o, e, hlt, fun j hj => ?_⟩⟩
  · have := hc L.length (by simp); simpa using this
  · have := hc j (by simp; omega); rw [this, List.getElem_append_left hj]

set_option maxHeartbeats 1000000 in
theorem headOf_any : ∀ (n : Nat) (A : Option Addr) (c : Nat) (L : List ByteArray) (w : World), L.length = n → n ≤ c → Strs w w.heap.size A L → n ≤ 8796093022208 → (∀ s ∈ L, s.size ≤ 140737488351232) →
    Calls Try.prog 30 #[.slice A n c] w (VPost (.int .u64 (head L)) w) := by
  intro n
  induction n with
  | zero =>
    intro A c L w hl _ _ _ _
    obtain rfl : L = [] := List.eq_nil_of_length_eq_zero hl
    go_enter Try.func30, Try.ntmps30
    go_wp2_with fail
    refine (hashOf_any _ _ (by decide)).mono ?_
    rintro e w1 ⟨rfl, rfl⟩
    go_wp2_with fail
    go_ret
    exact ⟨rfl, Below.refl _ _⟩
  | succ n ih =>
    intro A c L w hl hcap hL hn hz
    obtain ⟨K, s, rfl⟩ : ∃ K s, L = K ++ [s] := by
      rcases List.eq_nil_or_concat L with rfl | ⟨K, s, rfl⟩
      · simp at hl
      · exact ⟨K, s, by simp⟩
    have hk : K.length = n := by simpa using hl
    obtain ⟨b, o, rfl, hbB, hcell, hK⟩ := Strs.last hL
    rw [hk] at hcell
    have hsz := hz s (by simp)
    have hzK : ∀ x ∈ K, x.size ≤ 140737488351232 := fun x hx => hz x (by simp [hx])
    have IH := Lib.hid (fun w' (hb : Below w.heap.size w w') => ih (some ⟨b, o, none⟩) c K w' hk (by omega) ((hK.below hb).more hb.size) (by omega) hzK)
    have hS2 := head_snoc K s
    have H2 := Lib.hid hS2
    have hh := head_lt K
    have hls : (link (head K) s.data.toList).length ≤ 140737488351240 := by rw [link_len, ← Lib.size_eq]; omega
    clear ih hK hL hz hzK hS2 hl hk
    generalize head K = h at IH H2 hh hls
    go_enter Try.func30, Try.ntmps30
    go_wp2_with fail
    have hw0 : IntKind.i64.wrap (n : Int) = n := IntWalk.i64_in _ (by omega)
    have hw1 : (0 : Int) ≤ (n : Int) := by omega
    have hw2 : (n : Int) < (n : Int) + 1 := by omega
    have hw3 : (n : Int) ≤ (c : Int) := by omega
    refine Seq.region_seq (S := fun w' => Below w.heap.size w w') [(0, false), (1, false), (2, false), (3, false), (5, false), (6, false), (7, false), (8, false), (9, false), (4, true), (10, true), (11, true), (12, false)]
      (by kernel_rfl) (by kernel_rfl) (fun _ _ d _ _ h => by cases d <;> exact h) (Below.refl _ _).drew ?_
    simp only [Seq.lay, List.getElem?_cons_zero, List.getElem?_cons_succ]
    repeat (first
      | (refine Seq.seq_read (v := ?_) (by rfl) ?_ ?_
         rotate_left
         · (intro w' hS; have hc := (hS.cell (p := ⟨b, o + n, none⟩) hbB).trans hcell; go_simp; with_reducible rfl)
         simp only [Act.put, List.setIfInBounds_toArray, List.set_cons_zero, List.set_cons_succ]))
    refine Seq.seq_do (by rfl) (fun K hK => ?_)
    go_simp
    refine (IH.out _ (Below.refl _ _).drew).mono ?_
    rintro e w1 ⟨rfl, hb1⟩
    have hB1 : Below w.heap.size w w1 := (Below.refl _ _).drew.trans hb1
    refine hK _ _ hB1 ?_
    clear hK K
    refine Seq.seq_do (by rfl) (fun K hK => ?_)
    go_simp
    refine (linkOf_any h s _ hh (by omega)).mono ?_
    rintro e w2 ⟨rfl, hb2⟩
    have hB2 : Below w.heap.size w w2 := hB1.trans (hb2.mono hB1.size)
    refine hK _ _ hB2 ?_
    clear hK K
    refine Seq.seq_do (by rfl) (fun K hK => ?_)
    go_simp
    refine (hashOf_any _ _ (by rw [size_mk]; omega)).mono ?_
    rintro e w3 ⟨rfl, rfl⟩
    refine hK _ _ hB2 ?_
    clear hK K
    refine Seq.seq_read (v := ?_) (by rfl) ?_ ?_
    rotate_left
    · intro w' _; go_simp; with_reducible rfl
    simp only [Act.put, List.setIfInBounds_toArray, List.set_cons_zero, List.set_cons_succ]
    refine Seq.seq_nil ?_
    go_wp2_with fail
    go_ret
    exact ⟨ret_int (by rw [H2.out]), hB2⟩

def lastL : List ByteArray → List UInt8
  | [] => []
  | s :: r => link (head r.reverse) s.data.toList
set_option maxHeartbeats 1000000 in
theorem lastLink_nil (A : Option Addr) (c : Nat) (w : World) : Calls Try.prog 53 #[.slice A 0 c] w (VPost (.string ⟨#[]⟩) w) := by
  go_enter Try.func53, Try.ntmps53
  go_wp2_with fail
  go_ret
  exact ⟨rfl, Below.refl _ _⟩
set_option maxHeartbeats 1000000 in
theorem lastLink_snoc (n : Nat) (A : Option Addr) (c : Nat) (K : List ByteArray) (s : ByteArray) (w : World) (hk : K.length = n) (hcap : n + 1 ≤ c) (hL : Strs w w.heap.size A (K ++ [s])) (hn : n + 1 ≤ 8796093022208) (hz : ∀ x ∈ K ++ [s], x.size ≤ 140737488351232) :
    Calls Try.prog 53 #[.slice A (n + 1) c] w (VPost (.string ⟨(link (head K) s.data.toList).toArray⟩) w) := by
  obtain ⟨b, o, rfl, hbB, hcell, hK⟩ := Strs.last hL
  rw [hk] at hcell
  have hsz := hz s (by simp)
  have hzK : ∀ x ∈ K, x.size ≤ 140737488351232 := fun x hx => hz x (by simp [hx])
  have IH := Lib.hid (fun w' (hb : Below w.heap.size w w') => headOf_any n (some ⟨b, o, none⟩) c K w' hk (by omega) ((hK.below hb).more hb.size) (by omega) hzK)
  have hh := head_lt K
  clear hK hL hz hzK hk
  generalize head K = h at IH hh
  have hw0 : IntKind.i64.wrap (n : Int) = n := IntWalk.i64_in _ (by omega)
  have hw1 : (0 : Int) ≤ (n : Int) := by omega
  have hw2 : (n : Int) < (n : Int) + 1 := by omega
  have hw3 : (n : Int) ≤ (c : Int) := by omega
  go_enter Try.func53, Try.ntmps53
  go_wp2_with fail
  refine Seq.region_seq (S := fun w' => Below w.heap.size w w') [(0, false), (1, false), (2, false), (3, false), (5, false), (6, false), (7, false), (8, false), (9, false), (4, true), (10, true), (11, false)]
    (by kernel_rfl) (by kernel_rfl) (fun _ _ d _ _ h => by cases d <;> exact h) (Below.refl _ _).drew ?_
  simp only [Seq.lay, List.getElem?_cons_zero, List.getElem?_cons_succ]
  repeat (first
    | (refine Seq.seq_read (v := ?_) (by rfl) ?_ ?_
       rotate_left
       · (intro w' hS; have hc := (hS.cell (p := ⟨b, o + n, none⟩) hbB).trans hcell; go_simp; with_reducible rfl)
       simp only [Act.put, List.setIfInBounds_toArray, List.set_cons_zero, List.set_cons_succ]))
  refine Seq.seq_do (by rfl) (fun K hK => ?_)
  go_simp
  refine (IH.out _ (Below.refl _ _).drew).mono ?_
  rintro e w1 ⟨rfl, hb1⟩
  have hB1 : Below w.heap.size w w1 := (Below.refl _ _).drew.trans hb1
  refine hK _ _ hB1 ?_
  clear hK K
  refine Seq.seq_do (by rfl) (fun K hK => ?_)
  go_simp
  refine (linkOf_any h s _ hh (by omega)).mono ?_
  rintro e w2 ⟨rfl, hb2⟩
  have hB2 : Below w.heap.size w w2 := hB1.trans (hb2.mono hB1.size)
  refine hK _ _ hB2 ?_
  clear hK K
  refine Seq.seq_read (v := ?_) (by rfl) ?_ ?_
  rotate_left
  · intro w' _; go_simp; with_reducible rfl
  simp only [Act.put, List.setIfInBounds_toArray, List.set_cons_zero, List.set_cons_succ]
  refine Seq.seq_nil ?_
  go_wp2_with fail
  go_ret
  exact ⟨rfl, hB2⟩

set_option maxHeartbeats 1000000 in
theorem without_nil (A : Option Addr) (c : Nat) (w : World) : Calls Try.prog 54 #[.slice A 0 c] w (fun e w' => e = .returned (.slice none 0 0) ∧ w = w') := by
  go_enter Try.func54, Try.ntmps54
  go_wp2_with fail
  go_ret
  exact ⟨rfl, rfl⟩
set_option maxHeartbeats 1000000 in
theorem without_snoc (n : Nat) (a : Addr) (c : Nat) (w : World) (hcap : n + 1 ≤ c) (hn : n + 1 ≤ 8796093022208) : Calls Try.prog 54 #[.slice (some a) (n + 1) c] w (fun e w' => e = .returned (.slice (some a) n c) ∧ w = w') := by
  go_enter Try.func54, Try.ntmps54
  go_wp2_with fail
  go_ret
  exact ⟨rfl, rfl⟩
end Go.Proofs.Ytmcihmcgkhijcaa.ChainR
