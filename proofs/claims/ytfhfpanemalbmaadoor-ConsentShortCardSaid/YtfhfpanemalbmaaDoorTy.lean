/- The api's structs: as Lean structures, as trees, and opened. -/
import Derived.Test.YtfhfpanemalbmaaDoorAbsP
import Derived.Test.YtfhfpanemalbmaaDoorTb
namespace Go.Proofs.YtfhfpanemalbmaaDoor.Abs
open Go.RowKit

structure Consent where
  given : Int
  purposes : Nat → Bool
  vendors : List Int
abbrev Consent.v (x : Consent) : V := .agg [.int .i64 x.given, .bool ((x.purposes 0)), .bool ((x.purposes 1)), .bool ((x.purposes 2)), .bool ((x.purposes 3)), .bool ((x.purposes 4)), .bool ((x.purposes 5)), .bool ((x.purposes 6)), .bool ((x.purposes 7)), .bool ((x.purposes 8)), .bool ((x.purposes 9)), .fro (x.vendors.map (V.int .i64))]
def Consent.Ok (okS : Nat → Prop) (okL : TypeId → Nat → Prop) (x : Consent) : Prop := (∃ c, x.vendors.length ≤ c ∧ (c = 0 ∨ okL 3 c)) ∧ okS = okS ∧ okL = okL ∧ x = x
set_option maxRecDepth 100000 in
theorem Consent.of {okS : Nat → Prop} {okL : TypeId → Nat → Prop} {n : Nat} {us : List V} (h : Typed Tryd.prog okS okL n 25 us) : ∃ x : Consent, V.agg us = x.v ∧ x.Ok okS okL := by
  obtain ⟨q, hl, hf⟩ := ty_struct Tryd.underlying25 h
  have e : Tryd.prog.cellsOf 25 = 12 := by kernel_rfl
  rw [e] at hl
  match us, hl with
  | [c0, c1, c2, c3, c4, c5, c6, c7, c8, c9, c10, c11], _ =>
    have h0 := ty_field hf 0 0 1 3 rfl rfl rfl (by kernel_rfl)
    obtain ⟨a0, e0⟩ := ty_int Tryd.underlying3 h0
    cases e0
    have h1 := ty_field hf 1 1 10 22 rfl rfl rfl (by kernel_rfl)
    obtain ⟨q1, _, g1⟩ := ty_array Tryd.underlying22 h1
    have g1_0 := g1 0 (by decide)
    rw [show Tryd.prog.cellsOf 4 = 1 from by kernel_rfl] at g1_0
    obtain ⟨a1_0, e1_0⟩ := ty_bool Tryd.underlying4 g1_0
    cases e1_0
    have g1_1 := g1 1 (by decide)
    rw [show Tryd.prog.cellsOf 4 = 1 from by kernel_rfl] at g1_1
    obtain ⟨a1_1, e1_1⟩ := ty_bool Tryd.underlying4 g1_1
    cases e1_1
    have g1_2 := g1 2 (by decide)
    rw [show Tryd.prog.cellsOf 4 = 1 from by kernel_rfl] at g1_2
    obtain ⟨a1_2, e1_2⟩ := ty_bool Tryd.underlying4 g1_2
    cases e1_2
    have g1_3 := g1 3 (by decide)
    rw [show Tryd.prog.cellsOf 4 = 1 from by kernel_rfl] at g1_3
    obtain ⟨a1_3, e1_3⟩ := ty_bool Tryd.underlying4 g1_3
    cases e1_3
    have g1_4 := g1 4 (by decide)
    rw [show Tryd.prog.cellsOf 4 = 1 from by kernel_rfl] at g1_4
    obtain ⟨a1_4, e1_4⟩ := ty_bool Tryd.underlying4 g1_4
    cases e1_4
    have g1_5 := g1 5 (by decide)
    rw [show Tryd.prog.cellsOf 4 = 1 from by kernel_rfl] at g1_5
    obtain ⟨a1_5, e1_5⟩ := ty_bool Tryd.underlying4 g1_5
    cases e1_5
    have g1_6 := g1 6 (by decide)
    rw [show Tryd.prog.cellsOf 4 = 1 from by kernel_rfl] at g1_6
    obtain ⟨a1_6, e1_6⟩ := ty_bool Tryd.underlying4 g1_6
    cases e1_6
    have g1_7 := g1 7 (by decide)
    rw [show Tryd.prog.cellsOf 4 = 1 from by kernel_rfl] at g1_7
    obtain ⟨a1_7, e1_7⟩ := ty_bool Tryd.underlying4 g1_7
    cases e1_7
    have g1_8 := g1 8 (by decide)
    rw [show Tryd.prog.cellsOf 4 = 1 from by kernel_rfl] at g1_8
    obtain ⟨a1_8, e1_8⟩ := ty_bool Tryd.underlying4 g1_8
    cases e1_8
    have g1_9 := g1 9 (by decide)
    rw [show Tryd.prog.cellsOf 4 = 1 from by kernel_rfl] at g1_9
    obtain ⟨a1_9, e1_9⟩ := ty_bool Tryd.underlying4 g1_9
    cases e1_9
    have h2 := ty_field hf 2 11 1 23 rfl rfl rfl (by kernel_rfl)
    obtain ⟨a2, e2, o2, b2⟩ := ty_slice (V.int .i64) (fun _ => True) Tryd.underlying23 h2 (fun m x hx => by obtain ⟨a, rfl⟩ := ty_int Tryd.underlying3 hx; exact ⟨a, mk_one (by kernel_rfl), trivial⟩)
    cases e2
    exact ⟨⟨a0, fun i => [a1_0, a1_1, a1_2, a1_3, a1_4, a1_5, a1_6, a1_7, a1_8, a1_9].getD i false, a2⟩, rfl, b2, rfl, rfl, rfl⟩
end Go.Proofs.YtfhfpanemalbmaaDoor.Abs
