/- The api's structs: as Lean structures, as trees, and opened. -/
import Derived.Test.YtbacakgjhohedaaDoorAbsP
import Derived.Test.YtbacakgjhohedaaDoorTb
namespace Go.Proofs.YtbacakgjhohedaaDoor.Abs
open Go.RowKit

structure Attr where
  name : List UInt8
  value : List UInt8
abbrev Attr.v (x : Attr) : V := .agg [.str (str x.name), .str (str x.value)]
def Attr.Ok (okS : Nat → Prop) (okL : TypeId → Nat → Prop) (x : Attr) : Prop := okS x.name.length ∧ okS x.value.length ∧ okS = okS ∧ okL = okL ∧ x = x
set_option maxRecDepth 100000 in
theorem Attr.of {okS : Nat → Prop} {okL : TypeId → Nat → Prop} {n : Nat} {us : List V} (h : Typed Tryd.prog okS okL n 37 us) : ∃ x : Attr, V.agg us = x.v ∧ x.Ok okS okL := by
  obtain ⟨q, hl, hf⟩ := ty_struct Tryd.underlying37 h
  have e : Tryd.prog.cellsOf 37 = 2 := by kernel_rfl
  rw [e] at hl
  match us, hl with
  | [c0, c1], _ =>
    have h0 := ty_field hf 0 0 1 9 rfl rfl rfl (by kernel_rfl)
    obtain ⟨a0, e0, o0⟩ := ty_strL Tryd.underlying9 h0
    cases e0
    have h1 := ty_field hf 1 1 1 9 rfl rfl rfl (by kernel_rfl)
    obtain ⟨a1, e1, o1⟩ := ty_strL Tryd.underlying9 h1
    cases e1
    exact ⟨⟨a0, a1⟩, rfl, o0, o1, rfl, rfl, rfl⟩
structure Raw where
  name : List UInt8
  value : List UInt8
  attrs : List Attr
abbrev Raw.v (x : Raw) : V := .agg [.str (str x.name), .str (str x.value), .fro (x.attrs.map Attr.v)]
def Raw.Ok (okS : Nat → Prop) (okL : TypeId → Nat → Prop) (x : Raw) : Prop := okS x.name.length ∧ okS x.value.length ∧ (∃ c, x.attrs.length ≤ c ∧ (c = 0 ∨ okL 37 c)) ∧ (∀ y ∈ x.attrs, Attr.Ok okS okL y) ∧ okS = okS ∧ okL = okL ∧ x = x
set_option maxRecDepth 100000 in
theorem Raw.of {okS : Nat → Prop} {okL : TypeId → Nat → Prop} {n : Nat} {us : List V} (h : Typed Tryd.prog okS okL n 24 us) : ∃ x : Raw, V.agg us = x.v ∧ x.Ok okS okL := by
  obtain ⟨q, hl, hf⟩ := ty_struct Tryd.underlying24 h
  have e : Tryd.prog.cellsOf 24 = 3 := by kernel_rfl
  rw [e] at hl
  match us, hl with
  | [c0, c1, c2], _ =>
    have h0 := ty_field hf 0 0 1 9 rfl rfl rfl (by kernel_rfl)
    obtain ⟨a0, e0, o0⟩ := ty_strL Tryd.underlying9 h0
    cases e0
    have h1 := ty_field hf 1 1 1 9 rfl rfl rfl (by kernel_rfl)
    obtain ⟨a1, e1, o1⟩ := ty_strL Tryd.underlying9 h1
    cases e1
    have h2 := ty_field hf 2 2 1 22 rfl rfl rfl (by kernel_rfl)
    obtain ⟨a2, e2, o2, b2⟩ := ty_slice Attr.v (fun a => Attr.Ok okS okL a) Tryd.underlying22 h2 (fun m x hx => by obtain ⟨a, h1, h2⟩ := Attr.of hx; exact ⟨a, by rw [mk_agg (by kernel_rfl)]; exact h1, h2⟩)
    cases e2
    exact ⟨⟨a0, a1, a2⟩, rfl, o0, o1, b2, o2, rfl, rfl, rfl⟩
end Go.Proofs.YtbacakgjhohedaaDoor.Abs
