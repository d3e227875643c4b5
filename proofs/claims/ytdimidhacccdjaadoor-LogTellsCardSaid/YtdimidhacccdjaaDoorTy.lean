/- The api's structs: as Lean structures, as trees, and opened. -/
import Derived.Test.YtdimidhacccdjaaDoorAbsP
import Derived.Test.YtdimidhacccdjaaDoorTb
namespace Go.Proofs.YtdimidhacccdjaaDoor.Abs
open Go.RowKit

structure Put where
  pos : Int
  text : List UInt8
abbrev Put.v (x : Put) : V := .agg [.int .i64 x.pos, .str (str x.text)]
def Put.Ok (okS : Nat → Prop) (okL : TypeId → Nat → Prop) (x : Put) : Prop := okS x.text.length ∧ okS = okS ∧ okL = okL ∧ x = x
set_option maxRecDepth 100000 in
theorem Put.of {okS : Nat → Prop} {okL : TypeId → Nat → Prop} {n : Nat} {us : List V} (h : Typed Tryd.prog okS okL n 47 us) : ∃ x : Put, V.agg us = x.v ∧ x.Ok okS okL := by
  obtain ⟨q, hl, hf⟩ := ty_struct Tryd.underlying47 h
  have e : Tryd.prog.cellsOf 47 = 2 := by kernel_rfl
  rw [e] at hl
  match us, hl with
  | [c0, c1], _ =>
    have h0 := ty_field hf 0 0 1 3 rfl rfl rfl (by kernel_rfl)
    obtain ⟨a0, e0⟩ := ty_int Tryd.underlying3 h0
    cases e0
    have h1 := ty_field hf 1 1 1 9 rfl rfl rfl (by kernel_rfl)
    obtain ⟨a1, e1, o1⟩ := ty_strL Tryd.underlying9 h1
    cases e1
    exact ⟨⟨a0, a1⟩, rfl, o1, rfl, rfl, rfl⟩
structure Disk where
  kept : List (List UInt8)
  wait : List Put
abbrev Disk.v (x : Disk) : V := .agg [.fro (x.kept.map strT), .fro (x.wait.map Put.v)]
def Disk.Ok (okS : Nat → Prop) (okL : TypeId → Nat → Prop) (x : Disk) : Prop := (∃ c, x.kept.length ≤ c ∧ (c = 0 ∨ okL 9 c)) ∧ (∀ y ∈ x.kept, okS y.length) ∧ (∃ c, x.wait.length ≤ c ∧ (c = 0 ∨ okL 47 c)) ∧ (∀ y ∈ x.wait, Put.Ok okS okL y) ∧ okS = okS ∧ okL = okL ∧ x = x
set_option maxRecDepth 100000 in
theorem Disk.of {okS : Nat → Prop} {okL : TypeId → Nat → Prop} {n : Nat} {us : List V} (h : Typed Tryd.prog okS okL n 25 us) : ∃ x : Disk, V.agg us = x.v ∧ x.Ok okS okL := by
  obtain ⟨q, hl, hf⟩ := ty_struct Tryd.underlying25 h
  have e : Tryd.prog.cellsOf 25 = 2 := by kernel_rfl
  rw [e] at hl
  match us, hl with
  | [c0, c1], _ =>
    have h0 := ty_field hf 0 0 1 22 rfl rfl rfl (by kernel_rfl)
    obtain ⟨a0, e0, o0, b0⟩ := ty_slice strT (fun a => okS a.length) Tryd.underlying22 h0 (fun m x hx => by obtain ⟨a, rfl, h2⟩ := ty_strL Tryd.underlying9 hx; exact ⟨a, mk_one (by kernel_rfl), h2⟩)
    cases e0
    have h1 := ty_field hf 1 1 1 23 rfl rfl rfl (by kernel_rfl)
    obtain ⟨a1, e1, o1, b1⟩ := ty_slice Put.v (fun a => Put.Ok okS okL a) Tryd.underlying23 h1 (fun m x hx => by obtain ⟨a, h1, h2⟩ := Put.of hx; exact ⟨a, by rw [mk_agg (by kernel_rfl)]; exact h1, h2⟩)
    cases e1
    exact ⟨⟨a0, a1⟩, rfl, b0, o0, b1, o1, rfl, rfl, rfl⟩
end Go.Proofs.YtdimidhacccdjaaDoor.Abs
