/- The walks of the law's bitsBegun, and of BitsTells. -/
import Derived.Test.YtmcihmcgkhijcaaBitsX
import Derived.Test.YtmcihmcgkhijcaaBitsQ
namespace Go.Proofs.Ytmcihmcgkhijcaa.BitsY
open Go.RowKit Mem BitsP BitsS BitsT BitsW BitsR OneB BitsU BitsV BitsX BitsQ

theorem fields_lit (w : World) (L : List (Nat × Int)) (t : TypeId) : Row (w.alloc (.cells (L.flatMap fld).toArray t)) (w.alloc (.cells (L.flatMap fld).toArray t)).heap.size (some ⟨w.heap.size, 0, none⟩) (L.flatMap fld) := Row.lit w t _ _ (by simp)
theorem w1 : writeF [(5, 3), (1, 6)] = (⟨#[160, 128]⟩, 0) := by decide
theorem w2 : writeF [(8, 3)] = (⟨#[]⟩, 4) := by decide
theorem r1 : readF ⟨#[160, 128]⟩ [3, 6] = ([5, 1], 7, 0) := by decide
theorem write1_any (w : World) : Calls Try.prog 34 #[.slice (some ⟨w.heap.size, 0, none⟩) 2 2] (w.alloc (.cells #[.int .u64 5, .int .i64 3, .int .u64 1, .int .i64 6] 50))
    (Gives (.tuple #[.string ⟨#[160, 128]⟩, .int .i64 0]) (w.alloc (.cells #[.int .u64 5, .int .i64 3, .int .u64 1, .int .i64 6] 50))) := by
  refine (write_any (some ⟨w.heap.size, 0, none⟩) 2 [(5, 3), (1, 6)] (by decide) _ (fields_lit w [(5, 3), (1, 6)] _) (by decide)).mono ?_
  rintro e w' ⟨rfl, hb⟩
  rw [w1]
  exact ⟨rfl, hb⟩
theorem write2_any (w : World) : Calls Try.prog 34 #[.slice (some ⟨w.heap.size, 0, none⟩) 1 1] (w.alloc (.cells #[.int .u64 8, .int .i64 3] 50))
    (Gives (.tuple #[.string ⟨#[]⟩, .int .i64 4]) (w.alloc (.cells #[.int .u64 8, .int .i64 3] 50))) := by
  refine (write_any (some ⟨w.heap.size, 0, none⟩) 1 [(8, 3)] (by decide) _ (fields_lit w [(8, 3)] _) (by decide)).mono ?_
  rintro e w' ⟨rfl, hb⟩
  rw [w2]
  exact ⟨rfl, hb⟩
/-- What Read gives, its numbers' row named. -/
def GivesNums (l : List Nat) (n e : Nat) (w : World) (en : Ending) (w' : World) : Prop :=
  ∃ A c, en = .returned (.tuple #[.slice A l.length c, .int .i64 (n : Int), .int .i64 (e : Int)]) ∧ Row w' w'.heap.size A (u64s l) ∧ Below w.heap.size w w'
theorem read1_any (w : World) : Calls Try.prog 35 #[.string ⟨#[160, 128]⟩, .slice (some ⟨w.heap.size, 0, none⟩) 2 2] (w.alloc (.cells #[.int .i64 3, .int .i64 6] 3))
    (GivesNums [5, 1] 7 0 (w.alloc (.cells #[.int .i64 3, .int .i64 6] 3))) := by
  refine (read_any ⟨#[160, 128]⟩ (some ⟨w.heap.size, 0, none⟩) 2 [3, 6] _ (by decide) (Row.lit w 3 [.int .i64 3, .int .i64 6] _ (by simp)) (by decide)).mono ?_
  rintro e w' ⟨A, c, rfl, hn, hr, hb⟩
  rw [r1] at *
  exact ⟨A, c, rfl, hr, hb⟩
theorem sameLit_any (A : Option Addr) (c : Nat) (wx : World) (hr : Row wx wx.heap.size A (u64s [5, 1])) :
    Calls Try.prog 39 #[.slice A 2 c, .slice (some ⟨wx.heap.size, 0, none⟩) 2 2] (wx.alloc (.cells #[.int .u64 5, .int .u64 1] 26)) (Gives (.bool true) (wx.alloc (.cells #[.int .u64 5, .int .u64 1] 26))) :=
  sameNums_any A c [5, 1] (some ⟨wx.heap.size, 0, none⟩) 2 [5, 1] _ (hr.at' ((Below.refl _ _).alloc (Nat.le_refl _) _)) (by decide) (Row.lit wx 26 [.int .u64 5, .int .u64 1] _ (by simp)) (by decide)

set_option maxHeartbeats 2000000 in
theorem bitsBegun_any (w : World) : Calls Try.prog 38 #[] w (Gives (.bool true) w) := by
  go_enter Try.func38, Try.ntmps38
  go_wp2_with fail
  refine (write1_any w).mono ?_
  rintro e w1 ⟨rfl, hb1⟩
  have B1 : Below w.heap.size w w1 := ((Below.refl _ w).alloc (Nat.le_refl _) _).trans (hb1.mono (by simp))
  clear hb1
  go_wp2_with fail
  refine (read1_any w1).mono ?_
  rintro e w2 ⟨A, c, rfl, hr, hb2⟩
  have B2 : Below w.heap.size w w2 := (below_new B1 _).trans (hb2.mono (below_new B1 _).size)
  have HR := Lib.hid hr
  clear hb2 hr
  go_wp2_with fail
  refine (write2_any w2).mono ?_
  rintro e w3 ⟨rfl, hb3⟩
  have b3 : Below w2.heap.size w2 w3 := ((Below.refl _ w2).alloc (Nat.le_refl _) _).trans (hb3.mono (by simp))
  have B3 := below_cat B2 b3
  have HR3 := Lib.hid (HR.out.at' b3)
  clear hb3 b3 HR
  go_wp2_with fail
  refine (sameLit_any A c w3 HR3.out).mono ?_
  rintro e w4 ⟨rfl, hb4⟩
  have B4 : Below w.heap.size w w4 := (below_new B3 _).trans (hb4.mono (below_new B3 _).size)
  go_wp2_with fail
  go_ret
  exact ⟨rfl, B4⟩

/-- What a handed slice of fields, of ints must be. -/
structure HF (w : World) (A : Option Addr) (L : List (Nat × Int)) : Prop where
  r : Row w w.heap.size A (L.flatMap fld)
  n : L.length ≤ 8796093022208
  b : ∀ f ∈ L, f.1 < 18446744073709551616
structure HI (w : World) (A : Option Addr) (L : List Int) : Prop where
  r : Row w w.heap.size A (L.map fun x => Value.int .i64 x)
  n : L.length ≤ 140737488355328
theorem HF.at' {w w' : World} {A : Option Addr} {L : List (Nat × Int)} (h : HF w A L) (hb : Below w.heap.size w w') : HF w' A L := ⟨h.r.at' hb, h.n, h.b⟩
theorem HI.at' {w w' : World} {A : Option Addr} {L : List Int} (h : HI w A L) (hb : Below w.heap.size w w') : HI w' A L := ⟨h.r.at' hb, h.n⟩
theorem readF_len (s : ByteArray) (ws : List Int) : (readF s ws).1.length ≤ 400 := by
  unfold readF
  split
  · simp
  · split
    · simp [rnums_len]; omega
    · simp
set_option maxHeartbeats 4000000 in
theorem bitsTells_any (A : Option Addr) (c : Nat) (L : List (Nat × Int)) (s : ByteArray) (A' : Option Addr) (c' : Nat) (ws : List Int) (w : World) (H : HF w A L) (H' : HI w A' ws) (hs : s.size ≤ 2199023255552) :
    Calls Try.prog 10 #[.slice A L.length c, .string s, .slice A' ws.length c'] w (Gives (.bool true) w) := by
  have C1 := Lib.hid (fun w' (hb : Below w.heap.size w w') => write_any A c L H.b w' (H.at' hb).r H.n)
  have C2 := Lib.hid (fun w' (hb : Below w.heap.size w w') => read_any s A' c' ws w' (by omega) (H'.at' hb).r H'.n)
  have C3 := Lib.hid (fun w' (hb : Below w.heap.size w w') => bitsOf_any A c L H.b w' (H.at' hb).r H.n)
  have C4 := Lib.hid (fun w' (hb : Below w.heap.size w w') => unbitsOf_any s A' c' ws w' hs (H'.at' hb).r H'.n)
  have hlen := readF_len s ws
  unfold WPost at C1 C3
  generalize writeF L = fw at C1 C3
  generalize readF s ws = fr at C2 C4 hlen
  obtain ⟨x, e⟩ := fw
  obtain ⟨ns, n, f⟩ := fr
  clear H H'
  go_enter Try.func10, Try.ntmps10
  go_wp2_with fail
  refine (C1.out _ (Below.refl _ _)).mono ?_
  rintro e w1 ⟨rfl, B1⟩
  go_wp2_with fail
  refine (C2.out _ B1).mono ?_
  rintro e w2 ⟨A2, c2, rfl, _, r2, hb2⟩
  have B2 := below_cat B1 hb2
  have R2 := Lib.hid r2
  clear r2 hb2 B1
  go_wp2_with fail
  refine (C3.out _ B2).mono ?_
  rintro e w3 ⟨rfl, b3⟩
  have B3 := below_cat B2 b3
  have R3 := Lib.hid (R2.out.at' b3)
  clear R2 b3 B2
  go_wp2_with fail
  refine (C4.out _ B3).mono ?_
  rintro e w4 ⟨A4, c4, rfl, _, r4, b4⟩
  have B4 := below_cat B3 b4
  have R4 := Lib.hid (R3.out.at' b4)
  have Q4 := Lib.hid r4
  clear R3 b4 B3 r4
  go_wp2_with fail
  refine (bitsBegun_any _).mono ?_
  rintro e w5 ⟨rfl, b5⟩
  have B5 := below_cat B4 b5
  have R5 := Lib.hid (R4.out.at' b5)
  have Q5 := Lib.hid (Q4.out.at' b5)
  clear R4 b5 B4 Q4
  go_wp2_with fail
  have CS := sameNums_any A2 c2 ns A4 c4 ns w5 R5.out (by omega) Q5.out (by omega)
  rw [decide_eq_true rfl] at CS
  refine CS.mono ?_
  rintro e w6 ⟨rfl, b6⟩
  have B6 := below_cat B5 b6
  go_wp2_with fail
  go_ret
  exact ⟨rfl, B6⟩
end Go.Proofs.Ytmcihmcgkhijcaa.BitsY
