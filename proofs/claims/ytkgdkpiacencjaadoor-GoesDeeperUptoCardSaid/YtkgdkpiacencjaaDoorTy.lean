/- The api's structs: as Lean structures, as trees, and opened. -/
import Derived.Test.YtkgdkpiacencjaaDoorAbsP
import Derived.Test.YtkgdkpiacencjaaDoorTb
namespace Go.Proofs.YtkgdkpiacencjaaDoor.Abs
open Go.RowKit

structure Cookie where
  name : List UInt8
  value : List UInt8
  domain : List UInt8
  path : List UInt8
  hostOnly : Bool
  secure : Bool
  httpOnly : Bool
  lasting : Bool
  site : Int
  expiry : Int
  created : Int
  used : Int
  no : Int
abbrev Cookie.v (x : Cookie) : V := .agg [.str (str x.name), .str (str x.value), .str (str x.domain), .str (str x.path), .bool x.hostOnly, .bool x.secure, .bool x.httpOnly, .bool x.lasting, .int .i64 x.site, .int .i64 x.expiry, .int .i64 x.created, .int .i64 x.used, .int .i64 x.no]
def Cookie.Ok (okS : Nat → Prop) (okL : TypeId → Nat → Prop) (x : Cookie) : Prop := okS x.name.length ∧ okS x.value.length ∧ okS x.domain.length ∧ okS x.path.length ∧ okS = okS ∧ okL = okL ∧ x = x
set_option maxRecDepth 100000 in
theorem Cookie.of {okS : Nat → Prop} {okL : TypeId → Nat → Prop} {n : Nat} {us : List V} (h : Typed Tryd.prog okS okL n 23 us) : ∃ x : Cookie, V.agg us = x.v ∧ x.Ok okS okL := by
  obtain ⟨q, hl, hf⟩ := ty_struct Tryd.underlying23 h
  have e : Tryd.prog.cellsOf 23 = 13 := by kernel_rfl
  rw [e] at hl
  match us, hl with
  | [c0, c1, c2, c3, c4, c5, c6, c7, c8, c9, c10, c11, c12], _ =>
    have h0 := ty_field hf 0 0 1 9 rfl rfl rfl (by kernel_rfl)
    obtain ⟨a0, e0, o0⟩ := ty_strL Tryd.underlying9 h0
    cases e0
    have h1 := ty_field hf 1 1 1 9 rfl rfl rfl (by kernel_rfl)
    obtain ⟨a1, e1, o1⟩ := ty_strL Tryd.underlying9 h1
    cases e1
    have h2 := ty_field hf 2 2 1 9 rfl rfl rfl (by kernel_rfl)
    obtain ⟨a2, e2, o2⟩ := ty_strL Tryd.underlying9 h2
    cases e2
    have h3 := ty_field hf 3 3 1 9 rfl rfl rfl (by kernel_rfl)
    obtain ⟨a3, e3, o3⟩ := ty_strL Tryd.underlying9 h3
    cases e3
    have h4 := ty_field hf 4 4 1 4 rfl rfl rfl (by kernel_rfl)
    obtain ⟨a4, e4⟩ := ty_bool Tryd.underlying4 h4
    cases e4
    have h5 := ty_field hf 5 5 1 4 rfl rfl rfl (by kernel_rfl)
    obtain ⟨a5, e5⟩ := ty_bool Tryd.underlying4 h5
    cases e5
    have h6 := ty_field hf 6 6 1 4 rfl rfl rfl (by kernel_rfl)
    obtain ⟨a6, e6⟩ := ty_bool Tryd.underlying4 h6
    cases e6
    have h7 := ty_field hf 7 7 1 4 rfl rfl rfl (by kernel_rfl)
    obtain ⟨a7, e7⟩ := ty_bool Tryd.underlying4 h7
    cases e7
    have h8 := ty_field hf 8 8 1 3 rfl rfl rfl (by kernel_rfl)
    obtain ⟨a8, e8⟩ := ty_int Tryd.underlying3 h8
    cases e8
    have h9 := ty_field hf 9 9 1 3 rfl rfl rfl (by kernel_rfl)
    obtain ⟨a9, e9⟩ := ty_int Tryd.underlying3 h9
    cases e9
    have h10 := ty_field hf 10 10 1 3 rfl rfl rfl (by kernel_rfl)
    obtain ⟨a10, e10⟩ := ty_int Tryd.underlying3 h10
    cases e10
    have h11 := ty_field hf 11 11 1 3 rfl rfl rfl (by kernel_rfl)
    obtain ⟨a11, e11⟩ := ty_int Tryd.underlying3 h11
    cases e11
    have h12 := ty_field hf 12 12 1 3 rfl rfl rfl (by kernel_rfl)
    obtain ⟨a12, e12⟩ := ty_int Tryd.underlying3 h12
    cases e12
    exact ⟨⟨a0, a1, a2, a3, a4, a5, a6, a7, a8, a9, a10, a11, a12⟩, rfl, o0, o1, o2, o3, rfl, rfl, rfl⟩
structure From where
  host : List UInt8
  path : List UInt8
  secure : Bool
  script : Bool
  abroad : Bool
abbrev From.v (x : From) : V := .agg [.str (str x.host), .str (str x.path), .bool x.secure, .bool x.script, .bool x.abroad]
def From.Ok (okS : Nat → Prop) (okL : TypeId → Nat → Prop) (x : From) : Prop := okS x.host.length ∧ okS x.path.length ∧ okS = okS ∧ okL = okL ∧ x = x
set_option maxRecDepth 100000 in
theorem From.of {okS : Nat → Prop} {okL : TypeId → Nat → Prop} {n : Nat} {us : List V} (h : Typed Tryd.prog okS okL n 25 us) : ∃ x : From, V.agg us = x.v ∧ x.Ok okS okL := by
  obtain ⟨q, hl, hf⟩ := ty_struct Tryd.underlying25 h
  have e : Tryd.prog.cellsOf 25 = 5 := by kernel_rfl
  rw [e] at hl
  match us, hl with
  | [c0, c1, c2, c3, c4], _ =>
    have h0 := ty_field hf 0 0 1 9 rfl rfl rfl (by kernel_rfl)
    obtain ⟨a0, e0, o0⟩ := ty_strL Tryd.underlying9 h0
    cases e0
    have h1 := ty_field hf 1 1 1 9 rfl rfl rfl (by kernel_rfl)
    obtain ⟨a1, e1, o1⟩ := ty_strL Tryd.underlying9 h1
    cases e1
    have h2 := ty_field hf 2 2 1 4 rfl rfl rfl (by kernel_rfl)
    obtain ⟨a2, e2⟩ := ty_bool Tryd.underlying4 h2
    cases e2
    have h3 := ty_field hf 3 3 1 4 rfl rfl rfl (by kernel_rfl)
    obtain ⟨a3, e3⟩ := ty_bool Tryd.underlying4 h3
    cases e3
    have h4 := ty_field hf 4 4 1 4 rfl rfl rfl (by kernel_rfl)
    obtain ⟨a4, e4⟩ := ty_bool Tryd.underlying4 h4
    cases e4
    exact ⟨⟨a0, a1, a2, a3, a4⟩, rfl, o0, o1, rfl, rfl, rfl⟩
structure Suffix where
  kind : Int
  name : List UInt8
abbrev Suffix.v (x : Suffix) : V := .agg [.int .i64 x.kind, .str (str x.name)]
def Suffix.Ok (okS : Nat → Prop) (okL : TypeId → Nat → Prop) (x : Suffix) : Prop := okS x.name.length ∧ okS = okS ∧ okL = okL ∧ x = x
set_option maxRecDepth 100000 in
theorem Suffix.of {okS : Nat → Prop} {okL : TypeId → Nat → Prop} {n : Nat} {us : List V} (h : Typed Tryd.prog okS okL n 67 us) : ∃ x : Suffix, V.agg us = x.v ∧ x.Ok okS okL := by
  obtain ⟨q, hl, hf⟩ := ty_struct Tryd.underlying67 h
  have e : Tryd.prog.cellsOf 67 = 2 := by kernel_rfl
  rw [e] at hl
  match us, hl with
  | [c0, c1], _ =>
    have h0 := ty_field hf 0 0 1 3 rfl rfl rfl (by kernel_rfl)
    obtain ⟨a0, e0⟩ := ty_int Tryd.underlying3 h0
    cases e0
    have h1 := ty_field hf 1 1 1 9 rfl rfl rfl (by kernel_rfl)
    obtain ⟨a1, e1, o1⟩ := ty_strL Tryd.underlying9 h1
    cases e1
    exact ⟨⟨a0, a1⟩, rfl, o1, rfl, rfl, rfl⟩
end Go.Proofs.YtkgdkpiacencjaaDoor.Abs
