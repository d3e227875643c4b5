/- Texts of the proof, joined: Ty. -/
import Derived.Test.YtkgdkpiacencjaaGreatDoorG6
section
namespace Go.Proofs.YtkgdkpiacencjaaGreatDoor.Abs
open Go.RowKit

structure Attr where
  name : List UInt8
  value : List UInt8
abbrev Attr.v (x : Attr) : V := .agg [.str (str x.name), .str (str x.value)]
def Attr.Ok (okS : Nat → Prop) (okL : TypeId → Nat → Prop) (x : Attr) : Prop := okS x.name.length ∧ okS x.value.length ∧ okS = okS ∧ okL = okL ∧ x = x
set_option maxRecDepth 100000 in
theorem Attr.of {okS : Nat → Prop} {okL : TypeId → Nat → Prop} {n : Nat} {us : List V} (h : Typed Tryz.prog okS okL n 45 us) : ∃ x : Attr, V.agg us = x.v ∧ x.Ok okS okL := by
  obtain ⟨q, hl, hf⟩ := ty_struct Tryz.underlying45 h
  have e : Tryz.prog.cellsOf 45 = 2 := by kernel_rfl
  rw [e] at hl
  match us, hl with
  | [c0, c1], _ =>
    have h0 := ty_field hf 0 0 1 9 rfl rfl rfl (by kernel_rfl)
    obtain ⟨a0, e0, o0⟩ := ty_strL Tryz.underlying9 h0
    cases e0
    have h1 := ty_field hf 1 1 1 9 rfl rfl rfl (by kernel_rfl)
    obtain ⟨a1, e1, o1⟩ := ty_strL Tryz.underlying9 h1
    cases e1
    exact ⟨⟨a0, a1⟩, rfl, o0, o1, rfl, rfl, rfl⟩
structure Raw where
  name : List UInt8
  value : List UInt8
  attrs : List Attr
abbrev Raw.v (x : Raw) : V := .agg [.str (str x.name), .str (str x.value), .fro (x.attrs.map Attr.v)]
def Raw.Ok (okS : Nat → Prop) (okL : TypeId → Nat → Prop) (x : Raw) : Prop := okS x.name.length ∧ okS x.value.length ∧ (∃ c, x.attrs.length ≤ c ∧ (c = 0 ∨ okL 45 c)) ∧ (∀ y ∈ x.attrs, Attr.Ok okS okL y) ∧ okS = okS ∧ okL = okL ∧ x = x
set_option maxRecDepth 100000 in
theorem Raw.of {okS : Nat → Prop} {okL : TypeId → Nat → Prop} {n : Nat} {us : List V} (h : Typed Tryz.prog okS okL n 25 us) : ∃ x : Raw, V.agg us = x.v ∧ x.Ok okS okL := by
  obtain ⟨q, hl, hf⟩ := ty_struct Tryz.underlying25 h
  have e : Tryz.prog.cellsOf 25 = 3 := by kernel_rfl
  rw [e] at hl
  match us, hl with
  | [c0, c1, c2], _ =>
    have h0 := ty_field hf 0 0 1 9 rfl rfl rfl (by kernel_rfl)
    obtain ⟨a0, e0, o0⟩ := ty_strL Tryz.underlying9 h0
    cases e0
    have h1 := ty_field hf 1 1 1 9 rfl rfl rfl (by kernel_rfl)
    obtain ⟨a1, e1, o1⟩ := ty_strL Tryz.underlying9 h1
    cases e1
    have h2 := ty_field hf 2 2 1 23 rfl rfl rfl (by kernel_rfl)
    obtain ⟨a2, e2, o2, b2⟩ := ty_slice Attr.v (fun a => Attr.Ok okS okL a) Tryz.underlying23 h2 (fun m x hx => by obtain ⟨a, h1, h2⟩ := Attr.of hx; exact ⟨a, by rw [mk_agg (by kernel_rfl)]; exact h1, h2⟩)
    cases e2
    exact ⟨⟨a0, a1, a2⟩, rfl, o0, o1, b2, o2, rfl, rfl, rfl⟩
structure From where
  host : List UInt8
  path : List UInt8
  secure : Bool
  script : Bool
  abroad : Bool
abbrev From.v (x : From) : V := .agg [.str (str x.host), .str (str x.path), .bool x.secure, .bool x.script, .bool x.abroad]
def From.Ok (okS : Nat → Prop) (okL : TypeId → Nat → Prop) (x : From) : Prop := okS x.host.length ∧ okS x.path.length ∧ okS = okS ∧ okL = okL ∧ x = x
set_option maxRecDepth 100000 in
theorem From.of {okS : Nat → Prop} {okL : TypeId → Nat → Prop} {n : Nat} {us : List V} (h : Typed Tryz.prog okS okL n 27 us) : ∃ x : From, V.agg us = x.v ∧ x.Ok okS okL := by
  obtain ⟨q, hl, hf⟩ := ty_struct Tryz.underlying27 h
  have e : Tryz.prog.cellsOf 27 = 5 := by kernel_rfl
  rw [e] at hl
  match us, hl with
  | [c0, c1, c2, c3, c4], _ =>
    have h0 := ty_field hf 0 0 1 9 rfl rfl rfl (by kernel_rfl)
    obtain ⟨a0, e0, o0⟩ := ty_strL Tryz.underlying9 h0
    cases e0
    have h1 := ty_field hf 1 1 1 9 rfl rfl rfl (by kernel_rfl)
    obtain ⟨a1, e1, o1⟩ := ty_strL Tryz.underlying9 h1
    cases e1
    have h2 := ty_field hf 2 2 1 4 rfl rfl rfl (by kernel_rfl)
    obtain ⟨a2, e2⟩ := ty_bool Tryz.underlying4 h2
    cases e2
    have h3 := ty_field hf 3 3 1 4 rfl rfl rfl (by kernel_rfl)
    obtain ⟨a3, e3⟩ := ty_bool Tryz.underlying4 h3
    cases e3
    have h4 := ty_field hf 4 4 1 4 rfl rfl rfl (by kernel_rfl)
    obtain ⟨a4, e4⟩ := ty_bool Tryz.underlying4 h4
    cases e4
    exact ⟨⟨a0, a1, a2, a3, a4⟩, rfl, o0, o1, rfl, rfl, rfl⟩
structure Cookie where
  name : List UInt8
  value : List UInt8
  domain : List UInt8
  path : List UInt8
  hostOnly : Bool
  secure : Bool
  httpOnly : Bool
  lasting : Bool
  site : Int
  expiry : Int
  created : Int
  used : Int
  no : Int
abbrev Cookie.v (x : Cookie) : V := .agg [.str (str x.name), .str (str x.value), .str (str x.domain), .str (str x.path), .bool x.hostOnly, .bool x.secure, .bool x.httpOnly, .bool x.lasting, .int .i64 x.site, .int .i64 x.expiry, .int .i64 x.created, .int .i64 x.used, .int .i64 x.no]
def Cookie.Ok (okS : Nat → Prop) (okL : TypeId → Nat → Prop) (x : Cookie) : Prop := okS x.name.length ∧ okS x.value.length ∧ okS x.domain.length ∧ okS x.path.length ∧ okS = okS ∧ okL = okL ∧ x = x
set_option maxRecDepth 100000 in
theorem Cookie.of {okS : Nat → Prop} {okL : TypeId → Nat → Prop} {n : Nat} {us : List V} (h : Typed Tryz.prog okS okL n 29 us) : ∃ x : Cookie, V.agg us = x.v ∧ x.Ok okS okL := by
  obtain ⟨q, hl, hf⟩ := ty_struct Tryz.underlying29 h
  have e : Tryz.prog.cellsOf 29 = 13 := by kernel_rfl
  rw [e] at hl
  match us, hl with
  | [c0, c1, c2, c3, c4, c5, c6, c7, c8, c9, c10, c11, c12], _ =>
    have h0 := ty_field hf 0 0 1 9 rfl rfl rfl (by kernel_rfl)
    obtain ⟨a0, e0, o0⟩ := ty_strL Tryz.underlying9 h0
    cases e0
    have h1 := ty_field hf 1 1 1 9 rfl rfl rfl (by kernel_rfl)
    obtain ⟨a1, e1, o1⟩ := ty_strL Tryz.underlying9 h1
    cases e1
    have h2 := ty_field hf 2 2 1 9 rfl rfl rfl (by kernel_rfl)
    obtain ⟨a2, e2, o2⟩ := ty_strL Tryz.underlying9 h2
    cases e2
    have h3 := ty_field hf 3 3 1 9 rfl rfl rfl (by kernel_rfl)
    obtain ⟨a3, e3, o3⟩ := ty_strL Tryz.underlying9 h3
    cases e3
    have h4 := ty_field hf 4 4 1 4 rfl rfl rfl (by kernel_rfl)
    obtain ⟨a4, e4⟩ := ty_bool Tryz.underlying4 h4
    cases e4
    have h5 := ty_field hf 5 5 1 4 rfl rfl rfl (by kernel_rfl)
    obtain ⟨a5, e5⟩ := ty_bool Tryz.underlying4 h5
    cases e5
    have h6 := ty_field hf 6 6 1 4 rfl rfl rfl (by kernel_rfl)
    obtain ⟨a6, e6⟩ := ty_bool Tryz.underlying4 h6
    cases e6
    have h7 := ty_field hf 7 7 1 4 rfl rfl rfl (by kernel_rfl)
    obtain ⟨a7, e7⟩ := ty_bool Tryz.underlying4 h7
    cases e7
    have h8 := ty_field hf 8 8 1 3 rfl rfl rfl (by kernel_rfl)
    obtain ⟨a8, e8⟩ := ty_int Tryz.underlying3 h8
    cases e8
    have h9 := ty_field hf 9 9 1 3 rfl rfl rfl (by kernel_rfl)
    obtain ⟨a9, e9⟩ := ty_int Tryz.underlying3 h9
    cases e9
    have h10 := ty_field hf 10 10 1 3 rfl rfl rfl (by kernel_rfl)
    obtain ⟨a10, e10⟩ := ty_int Tryz.underlying3 h10
    cases e10
    have h11 := ty_field hf 11 11 1 3 rfl rfl rfl (by kernel_rfl)
    obtain ⟨a11, e11⟩ := ty_int Tryz.underlying3 h11
    cases e11
    have h12 := ty_field hf 12 12 1 3 rfl rfl rfl (by kernel_rfl)
    obtain ⟨a12, e12⟩ := ty_int Tryz.underlying3 h12
    cases e12
    exact ⟨⟨a0, a1, a2, a3, a4, a5, a6, a7, a8, a9, a10, a11, a12⟩, rfl, o0, o1, o2, o3, rfl, rfl, rfl⟩
structure Suffix where
  kind : Int
  name : List UInt8
abbrev Suffix.v (x : Suffix) : V := .agg [.int .i64 x.kind, .str (str x.name)]
def Suffix.Ok (okS : Nat → Prop) (okL : TypeId → Nat → Prop) (x : Suffix) : Prop := okS x.name.length ∧ okS = okS ∧ okL = okL ∧ x = x
set_option maxRecDepth 100000 in
theorem Suffix.of {okS : Nat → Prop} {okL : TypeId → Nat → Prop} {n : Nat} {us : List V} (h : Typed Tryz.prog okS okL n 79 us) : ∃ x : Suffix, V.agg us = x.v ∧ x.Ok okS okL := by
  obtain ⟨q, hl, hf⟩ := ty_struct Tryz.underlying79 h
  have e : Tryz.prog.cellsOf 79 = 2 := by kernel_rfl
  rw [e] at hl
  match us, hl with
  | [c0, c1], _ =>
    have h0 := ty_field hf 0 0 1 3 rfl rfl rfl (by kernel_rfl)
    obtain ⟨a0, e0⟩ := ty_int Tryz.underlying3 h0
    cases e0
    have h1 := ty_field hf 1 1 1 9 rfl rfl rfl (by kernel_rfl)
    obtain ⟨a1, e1, o1⟩ := ty_strL Tryz.underlying9 h1
    cases e1
    exact ⟨⟨a0, a1⟩, rfl, o1, rfl, rfl, rfl⟩
structure Time where
  y : Int
  mon : Int
  d : Int
  h : Int
  min : Int
  s : Int
abbrev Time.v (x : Time) : V := .agg [.int .i64 x.y, .int .i64 x.mon, .int .i64 x.d, .int .i64 x.h, .int .i64 x.min, .int .i64 x.s]
def Time.Ok (okS : Nat → Prop) (okL : TypeId → Nat → Prop) (x : Time) : Prop := okS = okS ∧ okL = okL ∧ x = x
set_option maxRecDepth 100000 in
theorem Time.of {okS : Nat → Prop} {okL : TypeId → Nat → Prop} {n : Nat} {us : List V} (h : Typed Tryz.prog okS okL n 106 us) : ∃ x : Time, V.agg us = x.v ∧ x.Ok okS okL := by
  obtain ⟨q, hl, hf⟩ := ty_struct Tryz.underlying106 h
  have e : Tryz.prog.cellsOf 106 = 6 := by kernel_rfl
  rw [e] at hl
  match us, hl with
  | [c0, c1, c2, c3, c4, c5], _ =>
    have h0 := ty_field hf 0 0 1 3 rfl rfl rfl (by kernel_rfl)
    obtain ⟨a0, e0⟩ := ty_int Tryz.underlying3 h0
    cases e0
    have h1 := ty_field hf 1 1 1 3 rfl rfl rfl (by kernel_rfl)
    obtain ⟨a1, e1⟩ := ty_int Tryz.underlying3 h1
    cases e1
    have h2 := ty_field hf 2 2 1 3 rfl rfl rfl (by kernel_rfl)
    obtain ⟨a2, e2⟩ := ty_int Tryz.underlying3 h2
    cases e2
    have h3 := ty_field hf 3 3 1 3 rfl rfl rfl (by kernel_rfl)
    obtain ⟨a3, e3⟩ := ty_int Tryz.underlying3 h3
    cases e3
    have h4 := ty_field hf 4 4 1 3 rfl rfl rfl (by kernel_rfl)
    obtain ⟨a4, e4⟩ := ty_int Tryz.underlying3 h4
    cases e4
    have h5 := ty_field hf 5 5 1 3 rfl rfl rfl (by kernel_rfl)
    obtain ⟨a5, e5⟩ := ty_int Tryz.underlying3 h5
    cases e5
    exact ⟨⟨a0, a1, a2, a3, a4, a5⟩, rfl, rfl, rfl, rfl⟩
end Go.Proofs.YtkgdkpiacencjaaGreatDoor.Abs
end
