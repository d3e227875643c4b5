/- The api's structs: as Lean structures, as trees, and opened. -/
import Derived.Test.YtaojlikkaajpmaaAbsP
import Derived.Test.YtaojlikkaajpmaaTb
namespace Go.Proofs.Ytaojlikkaajpmaa.Abs
open Go.RowKit

structure From where
  host : List UInt8
  path : List UInt8
  secure : Bool
  script : Bool
  abroad : Bool
abbrev From.v (x : From) : V := .agg [.str (str x.host), .str (str x.path), .bool x.secure, .bool x.script, .bool x.abroad]
def From.Ok (okS : Nat → Prop) (okL : TypeId → Nat → Prop) (x : From) : Prop := okS x.host.length ∧ okS x.path.length ∧ okS = okS ∧ okL = okL ∧ x = x
set_option maxRecDepth 100000 in
theorem From.of {okS : Nat → Prop} {okL : TypeId → Nat → Prop} {n : Nat} {us : List V} (h : Typed Try.prog okS okL n 30 us) : ∃ x : From, V.agg us = x.v ∧ x.Ok okS okL := by
  obtain ⟨q, hl, hf⟩ := ty_struct Try.underlying30 h
  have e : Try.prog.cellsOf 30 = 5 := by kernel_rfl
  rw [e] at hl
  match us, hl with
  | [c0, c1, c2, c3, c4], _ =>
    have h0 := ty_field hf 0 0 1 9 rfl rfl rfl (by kernel_rfl)
    obtain ⟨a0, e0, o0⟩ := ty_strL Try.underlying9 h0
    cases e0
    have h1 := ty_field hf 1 1 1 9 rfl rfl rfl (by kernel_rfl)
    obtain ⟨a1, e1, o1⟩ := ty_strL Try.underlying9 h1
    cases e1
    have h2 := ty_field hf 2 2 1 4 rfl rfl rfl (by kernel_rfl)
    obtain ⟨a2, e2⟩ := ty_bool Try.underlying4 h2
    cases e2
    have h3 := ty_field hf 3 3 1 4 rfl rfl rfl (by kernel_rfl)
    obtain ⟨a3, e3⟩ := ty_bool Try.underlying4 h3
    cases e3
    have h4 := ty_field hf 4 4 1 4 rfl rfl rfl (by kernel_rfl)
    obtain ⟨a4, e4⟩ := ty_bool Try.underlying4 h4
    cases e4
    exact ⟨⟨a0, a1, a2, a3, a4⟩, rfl, o0, o1, rfl, rfl, rfl⟩
structure Rule where
  kind : Int
  text : List UInt8
  purpose : Int
  vendor : Int
abbrev Rule.v (x : Rule) : V := .agg [.int .i64 x.kind, .str (str x.text), .int .i64 x.purpose, .int .i64 x.vendor]
def Rule.Ok (okS : Nat → Prop) (okL : TypeId → Nat → Prop) (x : Rule) : Prop := okS x.text.length ∧ okS = okS ∧ okL = okL ∧ x = x
set_option maxRecDepth 100000 in
theorem Rule.of {okS : Nat → Prop} {okL : TypeId → Nat → Prop} {n : Nat} {us : List V} (h : Typed Try.prog okS okL n 73 us) : ∃ x : Rule, V.agg us = x.v ∧ x.Ok okS okL := by
  obtain ⟨q, hl, hf⟩ := ty_struct Try.underlying73 h
  have e : Try.prog.cellsOf 73 = 4 := by kernel_rfl
  rw [e] at hl
  match us, hl with
  | [c0, c1, c2, c3], _ =>
    have h0 := ty_field hf 0 0 1 3 rfl rfl rfl (by kernel_rfl)
    obtain ⟨a0, e0⟩ := ty_int Try.underlying3 h0
    cases e0
    have h1 := ty_field hf 1 1 1 9 rfl rfl rfl (by kernel_rfl)
    obtain ⟨a1, e1, o1⟩ := ty_strL Try.underlying9 h1
    cases e1
    have h2 := ty_field hf 2 2 1 3 rfl rfl rfl (by kernel_rfl)
    obtain ⟨a2, e2⟩ := ty_int Try.underlying3 h2
    cases e2
    have h3 := ty_field hf 3 3 1 3 rfl rfl rfl (by kernel_rfl)
    obtain ⟨a3, e3⟩ := ty_int Try.underlying3 h3
    cases e3
    exact ⟨⟨a0, a1, a2, a3⟩, rfl, o1, rfl, rfl, rfl⟩
structure Policy where
  rules : List Rule
  dflt : Int
  caps : Nat → Int
abbrev Policy.v (x : Policy) : V := .agg [.fro (x.rules.map Rule.v), .int .i64 x.dflt, .int .i64 ((x.caps 0)), .int .i64 ((x.caps 1)), .int .i64 ((x.caps 2)), .int .i64 ((x.caps 3)), .int .i64 ((x.caps 4)), .int .i64 ((x.caps 5)), .int .i64 ((x.caps 6)), .int .i64 ((x.caps 7)), .int .i64 ((x.caps 8)), .int .i64 ((x.caps 9)), .int .i64 ((x.caps 10))]
def Policy.Ok (okS : Nat → Prop) (okL : TypeId → Nat → Prop) (x : Policy) : Prop := (∃ c, x.rules.length ≤ c ∧ (c = 0 ∨ okL 73 c)) ∧ (∀ y ∈ x.rules, Rule.Ok okS okL y) ∧ okS = okS ∧ okL = okL ∧ x = x
set_option maxRecDepth 100000 in
theorem Policy.of {okS : Nat → Prop} {okL : TypeId → Nat → Prop} {n : Nat} {us : List V} (h : Typed Try.prog okS okL n 34 us) : ∃ x : Policy, V.agg us = x.v ∧ x.Ok okS okL := by
  obtain ⟨q, hl, hf⟩ := ty_struct Try.underlying34 h
  have e : Try.prog.cellsOf 34 = 13 := by kernel_rfl
  rw [e] at hl
  match us, hl with
  | [c0, c1, c2, c3, c4, c5, c6, c7, c8, c9, c10, c11, c12], _ =>
    have h0 := ty_field hf 0 0 1 31 rfl rfl rfl (by kernel_rfl)
    obtain ⟨a0, e0, o0, b0⟩ := ty_slice Rule.v (fun a => Rule.Ok okS okL a) Try.underlying31 h0 (fun m x hx => by obtain ⟨a, h1, h2⟩ := Rule.of hx; exact ⟨a, by rw [mk_agg (by kernel_rfl)]; exact h1, h2⟩)
    cases e0
    have h1 := ty_field hf 1 1 1 3 rfl rfl rfl (by kernel_rfl)
    obtain ⟨a1, e1⟩ := ty_int Try.underlying3 h1
    cases e1
    have h2 := ty_field hf 2 2 11 32 rfl rfl rfl (by kernel_rfl)
    obtain ⟨q2, _, g2⟩ := ty_array Try.underlying32 h2
    have g2_0 := g2 0 (by decide)
    rw [show Try.prog.cellsOf 3 = 1 from by kernel_rfl] at g2_0
    obtain ⟨a2_0, e2_0⟩ := ty_int Try.underlying3 g2_0
    cases e2_0
    have g2_1 := g2 1 (by decide)
    rw [show Try.prog.cellsOf 3 = 1 from by kernel_rfl] at g2_1
    obtain ⟨a2_1, e2_1⟩ := ty_int Try.underlying3 g2_1
    cases e2_1
    have g2_2 := g2 2 (by decide)
    rw [show Try.prog.cellsOf 3 = 1 from by kernel_rfl] at g2_2
    obtain ⟨a2_2, e2_2⟩ := ty_int Try.underlying3 g2_2
    cases e2_2
    have g2_3 := g2 3 (by decide)
    rw [show Try.prog.cellsOf 3 = 1 from by kernel_rfl] at g2_3
    obtain ⟨a2_3, e2_3⟩ := ty_int Try.underlying3 g2_3
    cases e2_3
    have g2_4 := g2 4 (by decide)
    rw [show Try.prog.cellsOf 3 = 1 from by kernel_rfl] at g2_4
    obtain ⟨a2_4, e2_4⟩ := ty_int Try.underlying3 g2_4
    cases e2_4
    have g2_5 := g2 5 (by decide)
    rw [show Try.prog.cellsOf 3 = 1 from by kernel_rfl] at g2_5
    obtain ⟨a2_5, e2_5⟩ := ty_int Try.underlying3 g2_5
    cases e2_5
    have g2_6 := g2 6 (by decide)
    rw [show Try.prog.cellsOf 3 = 1 from by kernel_rfl] at g2_6
    obtain ⟨a2_6, e2_6⟩ := ty_int Try.underlying3 g2_6
    cases e2_6
    have g2_7 := g2 7 (by decide)
    rw [show Try.prog.cellsOf 3 = 1 from by kernel_rfl] at g2_7
    obtain ⟨a2_7, e2_7⟩ := ty_int Try.underlying3 g2_7
    cases e2_7
    have g2_8 := g2 8 (by decide)
    rw [show Try.prog.cellsOf 3 = 1 from by kernel_rfl] at g2_8
    obtain ⟨a2_8, e2_8⟩ := ty_int Try.underlying3 g2_8
    cases e2_8
    have g2_9 := g2 9 (by decide)
    rw [show Try.prog.cellsOf 3 = 1 from by kernel_rfl] at g2_9
    obtain ⟨a2_9, e2_9⟩ := ty_int Try.underlying3 g2_9
    cases e2_9
    have g2_10 := g2 10 (by decide)
    rw [show Try.prog.cellsOf 3 = 1 from by kernel_rfl] at g2_10
    obtain ⟨a2_10, e2_10⟩ := ty_int Try.underlying3 g2_10
    cases e2_10
    exact ⟨⟨a0, a1, fun i => [a2_0, a2_1, a2_2, a2_3, a2_4, a2_5, a2_6, a2_7, a2_8, a2_9, a2_10].getD i 0⟩, rfl, b0, o0, rfl, rfl, rfl⟩
structure Event where
  kind : Int
  now : Int
  text : List UInt8
  src : From
  policy : Policy
abbrev Event.v (x : Event) : V := .agg [.int .i64 x.kind, .int .i64 x.now, .str (str x.text), .str (str x.src.host), .str (str x.src.path), .bool x.src.secure, .bool x.src.script, .bool x.src.abroad, .fro (x.policy.rules.map Rule.v), .int .i64 x.policy.dflt, .int .i64 ((x.policy.caps 0)), .int .i64 ((x.policy.caps 1)), .int .i64 ((x.policy.caps 2)), .int .i64 ((x.policy.caps 3)), .int .i64 ((x.policy.caps 4)), .int .i64 ((x.policy.caps 5)), .int .i64 ((x.policy.caps 6)), .int .i64 ((x.policy.caps 7)), .int .i64 ((x.policy.caps 8)), .int .i64 ((x.policy.caps 9)), .int .i64 ((x.policy.caps 10))]
def Event.Ok (okS : Nat → Prop) (okL : TypeId → Nat → Prop) (x : Event) : Prop := okS x.text.length ∧ From.Ok okS okL x.src ∧ Policy.Ok okS okL x.policy ∧ okS = okS ∧ okL = okL ∧ x = x
set_option maxRecDepth 100000 in
theorem Event.of {okS : Nat → Prop} {okL : TypeId → Nat → Prop} {n : Nat} {us : List V} (h : Typed Try.prog okS okL n 36 us) : ∃ x : Event, V.agg us = x.v ∧ x.Ok okS okL := by
  obtain ⟨q, hl, hf⟩ := ty_struct Try.underlying36 h
  have e : Try.prog.cellsOf 36 = 21 := by kernel_rfl
  rw [e] at hl
  match us, hl with
  | [c0, c1, c2, c3, c4, c5, c6, c7, c8, c9, c10, c11, c12, c13, c14, c15, c16, c17, c18, c19, c20], _ =>
    have h0 := ty_field hf 0 0 1 3 rfl rfl rfl (by kernel_rfl)
    obtain ⟨a0, e0⟩ := ty_int Try.underlying3 h0
    cases e0
    have h1 := ty_field hf 1 1 1 3 rfl rfl rfl (by kernel_rfl)
    obtain ⟨a1, e1⟩ := ty_int Try.underlying3 h1
    cases e1
    have h2 := ty_field hf 2 2 1 9 rfl rfl rfl (by kernel_rfl)
    obtain ⟨a2, e2, o2⟩ := ty_strL Try.underlying9 h2
    cases e2
    have h3 := ty_field hf 3 3 5 30 rfl rfl rfl (by kernel_rfl)
    obtain ⟨a3, e3, o3⟩ := From.of h3
    obtain ⟨a3_0, a3_1, a3_2, a3_3, a3_4⟩ := a3
    cases e3
    have h4 := ty_field hf 4 8 13 34 rfl rfl rfl (by kernel_rfl)
    obtain ⟨a4, e4, o4⟩ := Policy.of h4
    obtain ⟨a4_0, a4_1, a4_2⟩ := a4
    cases e4
    exact ⟨⟨a0, a1, a2, ⟨a3_0, a3_1, a3_2, a3_3, a3_4⟩, ⟨a4_0, a4_1, a4_2⟩⟩, rfl, o2, o3, o4, rfl, rfl, rfl⟩
structure Time where
  y : Int
  mon : Int
  d : Int
  h : Int
  min : Int
  s : Int
abbrev Time.v (x : Time) : V := .agg [.int .i64 x.y, .int .i64 x.mon, .int .i64 x.d, .int .i64 x.h, .int .i64 x.min, .int .i64 x.s]
def Time.Ok (okS : Nat → Prop) (okL : TypeId → Nat → Prop) (x : Time) : Prop := okS = okS ∧ okL = okL ∧ x = x
set_option maxRecDepth 100000 in
theorem Time.of {okS : Nat → Prop} {okL : TypeId → Nat → Prop} {n : Nat} {us : List V} (h : Typed Try.prog okS okL n 47 us) : ∃ x : Time, V.agg us = x.v ∧ x.Ok okS okL := by
  obtain ⟨q, hl, hf⟩ := ty_struct Try.underlying47 h
  have e : Try.prog.cellsOf 47 = 6 := by kernel_rfl
  rw [e] at hl
  match us, hl with
  | [c0, c1, c2, c3, c4, c5], _ =>
    have h0 := ty_field hf 0 0 1 3 rfl rfl rfl (by kernel_rfl)
    obtain ⟨a0, e0⟩ := ty_int Try.underlying3 h0
    cases e0
    have h1 := ty_field hf 1 1 1 3 rfl rfl rfl (by kernel_rfl)
    obtain ⟨a1, e1⟩ := ty_int Try.underlying3 h1
    cases e1
    have h2 := ty_field hf 2 2 1 3 rfl rfl rfl (by kernel_rfl)
    obtain ⟨a2, e2⟩ := ty_int Try.underlying3 h2
    cases e2
    have h3 := ty_field hf 3 3 1 3 rfl rfl rfl (by kernel_rfl)
    obtain ⟨a3, e3⟩ := ty_int Try.underlying3 h3
    cases e3
    have h4 := ty_field hf 4 4 1 3 rfl rfl rfl (by kernel_rfl)
    obtain ⟨a4, e4⟩ := ty_int Try.underlying3 h4
    cases e4
    have h5 := ty_field hf 5 5 1 3 rfl rfl rfl (by kernel_rfl)
    obtain ⟨a5, e5⟩ := ty_int Try.underlying3 h5
    cases e5
    exact ⟨⟨a0, a1, a2, a3, a4, a5⟩, rfl, rfl, rfl, rfl⟩
end Go.Proofs.Ytaojlikkaajpmaa.Abs
