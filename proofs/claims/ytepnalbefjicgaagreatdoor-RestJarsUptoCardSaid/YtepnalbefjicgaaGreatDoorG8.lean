/- Texts of the proof, joined: Ty. -/
import Derived.Test.YtepnalbefjicgaaGreatDoorG7
section
namespace Go.Proofs.YtepnalbefjicgaaGreatDoor.Abs
open Go.RowKit

structure Cookie where
  name : List UInt8
  value : List UInt8
  domain : List UInt8
  path : List UInt8
  hostOnly : Bool
  secure : Bool
  httpOnly : Bool
  lasting : Bool
  site : Int
  expiry : Int
  created : Int
  used : Int
  no : Int
abbrev Cookie.v (x : Cookie) : V := .agg [.str (str x.name), .str (str x.value), .str (str x.domain), .str (str x.path), .bool x.hostOnly, .bool x.secure, .bool x.httpOnly, .bool x.lasting, .int .i64 x.site, .int .i64 x.expiry, .int .i64 x.created, .int .i64 x.used, .int .i64 x.no]
def Cookie.Ok (okS : Nat → Prop) (okL : TypeId → Nat → Prop) (x : Cookie) : Prop := okS x.name.length ∧ okS x.value.length ∧ okS x.domain.length ∧ okS x.path.length ∧ okS = okS ∧ okL = okL ∧ x = x
set_option maxRecDepth 100000 in
theorem Cookie.of {okS : Nat → Prop} {okL : TypeId → Nat → Prop} {n : Nat} {us : List V} (h : Typed Tryz.prog okS okL n 26 us) : ∃ x : Cookie, V.agg us = x.v ∧ x.Ok okS okL := by
  obtain ⟨q, hl, hf⟩ := ty_struct Tryz.underlying26 h
  have e : Tryz.prog.cellsOf 26 = 13 := by kernel_rfl
  rw [e] at hl
  match us, hl with
  | [c0, c1, c2, c3, c4, c5, c6, c7, c8, c9, c10, c11, c12], _ =>
    have h0 := ty_field hf 0 0 1 9 rfl rfl rfl (by kernel_rfl)
    obtain ⟨a0, e0, o0⟩ := ty_strL Tryz.underlying9 h0
    cases e0
    have h1 := ty_field hf 1 1 1 9 rfl rfl rfl (by kernel_rfl)
    obtain ⟨a1, e1, o1⟩ := ty_strL Tryz.underlying9 h1
    cases e1
    have h2 := ty_field hf 2 2 1 9 rfl rfl rfl (by kernel_rfl)
    obtain ⟨a2, e2, o2⟩ := ty_strL Tryz.underlying9 h2
    cases e2
    have h3 := ty_field hf 3 3 1 9 rfl rfl rfl (by kernel_rfl)
    obtain ⟨a3, e3, o3⟩ := ty_strL Tryz.underlying9 h3
    cases e3
    have h4 := ty_field hf 4 4 1 4 rfl rfl rfl (by kernel_rfl)
    obtain ⟨a4, e4⟩ := ty_bool Tryz.underlying4 h4
    cases e4
    have h5 := ty_field hf 5 5 1 4 rfl rfl rfl (by kernel_rfl)
    obtain ⟨a5, e5⟩ := ty_bool Tryz.underlying4 h5
    cases e5
    have h6 := ty_field hf 6 6 1 4 rfl rfl rfl (by kernel_rfl)
    obtain ⟨a6, e6⟩ := ty_bool Tryz.underlying4 h6
    cases e6
    have h7 := ty_field hf 7 7 1 4 rfl rfl rfl (by kernel_rfl)
    obtain ⟨a7, e7⟩ := ty_bool Tryz.underlying4 h7
    cases e7
    have h8 := ty_field hf 8 8 1 3 rfl rfl rfl (by kernel_rfl)
    obtain ⟨a8, e8⟩ := ty_int Tryz.underlying3 h8
    cases e8
    have h9 := ty_field hf 9 9 1 3 rfl rfl rfl (by kernel_rfl)
    obtain ⟨a9, e9⟩ := ty_int Tryz.underlying3 h9
    cases e9
    have h10 := ty_field hf 10 10 1 3 rfl rfl rfl (by kernel_rfl)
    obtain ⟨a10, e10⟩ := ty_int Tryz.underlying3 h10
    cases e10
    have h11 := ty_field hf 11 11 1 3 rfl rfl rfl (by kernel_rfl)
    obtain ⟨a11, e11⟩ := ty_int Tryz.underlying3 h11
    cases e11
    have h12 := ty_field hf 12 12 1 3 rfl rfl rfl (by kernel_rfl)
    obtain ⟨a12, e12⟩ := ty_int Tryz.underlying3 h12
    cases e12
    exact ⟨⟨a0, a1, a2, a3, a4, a5, a6, a7, a8, a9, a10, a11, a12⟩, rfl, o0, o1, o2, o3, rfl, rfl, rfl⟩
structure Jar where
  cookies : List Cookie
  next : Int
abbrev Jar.v (x : Jar) : V := .agg [.fro (x.cookies.map Cookie.v), .int .i64 x.next]
def Jar.Ok (okS : Nat → Prop) (okL : TypeId → Nat → Prop) (x : Jar) : Prop := (∃ c, x.cookies.length ≤ c ∧ (c = 0 ∨ okL 26 c)) ∧ (∀ y ∈ x.cookies, Cookie.Ok okS okL y) ∧ okS = okS ∧ okL = okL ∧ x = x
set_option maxRecDepth 100000 in
theorem Jar.of {okS : Nat → Prop} {okL : TypeId → Nat → Prop} {n : Nat} {us : List V} (h : Typed Tryz.prog okS okL n 24 us) : ∃ x : Jar, V.agg us = x.v ∧ x.Ok okS okL := by
  obtain ⟨q, hl, hf⟩ := ty_struct Tryz.underlying24 h
  have e : Tryz.prog.cellsOf 24 = 2 := by kernel_rfl
  rw [e] at hl
  match us, hl with
  | [c0, c1], _ =>
    have h0 := ty_field hf 0 0 1 22 rfl rfl rfl (by kernel_rfl)
    obtain ⟨a0, e0, o0, b0⟩ := ty_slice Cookie.v (fun a => Cookie.Ok okS okL a) Tryz.underlying22 h0 (fun m x hx => by obtain ⟨a, h1, h2⟩ := Cookie.of hx; exact ⟨a, by rw [mk_agg (by kernel_rfl)]; exact h1, h2⟩)
    cases e0
    have h1 := ty_field hf 1 1 1 3 rfl rfl rfl (by kernel_rfl)
    obtain ⟨a1, e1⟩ := ty_int Tryz.underlying3 h1
    cases e1
    exact ⟨⟨a0, a1⟩, rfl, b0, o0, rfl, rfl, rfl⟩
structure From where
  host : List UInt8
  path : List UInt8
  secure : Bool
  script : Bool
  abroad : Bool
abbrev From.v (x : From) : V := .agg [.str (str x.host), .str (str x.path), .bool x.secure, .bool x.script, .bool x.abroad]
def From.Ok (okS : Nat → Prop) (okL : TypeId → Nat → Prop) (x : From) : Prop := okS x.host.length ∧ okS x.path.length ∧ okS = okS ∧ okL = okL ∧ x = x
set_option maxRecDepth 100000 in
theorem From.of {okS : Nat → Prop} {okL : TypeId → Nat → Prop} {n : Nat} {us : List V} (h : Typed Tryz.prog okS okL n 28 us) : ∃ x : From, V.agg us = x.v ∧ x.Ok okS okL := by
  obtain ⟨q, hl, hf⟩ := ty_struct Tryz.underlying28 h
  have e : Tryz.prog.cellsOf 28 = 5 := by kernel_rfl
  rw [e] at hl
  match us, hl with
  | [c0, c1, c2, c3, c4], _ =>
    have h0 := ty_field hf 0 0 1 9 rfl rfl rfl (by kernel_rfl)
    obtain ⟨a0, e0, o0⟩ := ty_strL Tryz.underlying9 h0
    cases e0
    have h1 := ty_field hf 1 1 1 9 rfl rfl rfl (by kernel_rfl)
    obtain ⟨a1, e1, o1⟩ := ty_strL Tryz.underlying9 h1
    cases e1
    have h2 := ty_field hf 2 2 1 4 rfl rfl rfl (by kernel_rfl)
    obtain ⟨a2, e2⟩ := ty_bool Tryz.underlying4 h2
    cases e2
    have h3 := ty_field hf 3 3 1 4 rfl rfl rfl (by kernel_rfl)
    obtain ⟨a3, e3⟩ := ty_bool Tryz.underlying4 h3
    cases e3
    have h4 := ty_field hf 4 4 1 4 rfl rfl rfl (by kernel_rfl)
    obtain ⟨a4, e4⟩ := ty_bool Tryz.underlying4 h4
    cases e4
    exact ⟨⟨a0, a1, a2, a3, a4⟩, rfl, o0, o1, rfl, rfl, rfl⟩
structure Rule where
  kind : Int
  text : List UInt8
  purpose : Int
  vendor : Int
abbrev Rule.v (x : Rule) : V := .agg [.int .i64 x.kind, .str (str x.text), .int .i64 x.purpose, .int .i64 x.vendor]
def Rule.Ok (okS : Nat → Prop) (okL : TypeId → Nat → Prop) (x : Rule) : Prop := okS x.text.length ∧ okS = okS ∧ okL = okL ∧ x = x
set_option maxRecDepth 100000 in
theorem Rule.of {okS : Nat → Prop} {okL : TypeId → Nat → Prop} {n : Nat} {us : List V} (h : Typed Tryz.prog okS okL n 105 us) : ∃ x : Rule, V.agg us = x.v ∧ x.Ok okS okL := by
  obtain ⟨q, hl, hf⟩ := ty_struct Tryz.underlying105 h
  have e : Tryz.prog.cellsOf 105 = 4 := by kernel_rfl
  rw [e] at hl
  match us, hl with
  | [c0, c1, c2, c3], _ =>
    have h0 := ty_field hf 0 0 1 3 rfl rfl rfl (by kernel_rfl)
    obtain ⟨a0, e0⟩ := ty_int Tryz.underlying3 h0
    cases e0
    have h1 := ty_field hf 1 1 1 9 rfl rfl rfl (by kernel_rfl)
    obtain ⟨a1, e1, o1⟩ := ty_strL Tryz.underlying9 h1
    cases e1
    have h2 := ty_field hf 2 2 1 3 rfl rfl rfl (by kernel_rfl)
    obtain ⟨a2, e2⟩ := ty_int Tryz.underlying3 h2
    cases e2
    have h3 := ty_field hf 3 3 1 3 rfl rfl rfl (by kernel_rfl)
    obtain ⟨a3, e3⟩ := ty_int Tryz.underlying3 h3
    cases e3
    exact ⟨⟨a0, a1, a2, a3⟩, rfl, o1, rfl, rfl, rfl⟩
structure Policy where
  rules : List Rule
  dflt : Int
  caps : Nat → Int
abbrev Policy.v (x : Policy) : V := .agg [.fro (x.rules.map Rule.v), .int .i64 x.dflt, .int .i64 ((x.caps 0)), .int .i64 ((x.caps 1)), .int .i64 ((x.caps 2)), .int .i64 ((x.caps 3)), .int .i64 ((x.caps 4)), .int .i64 ((x.caps 5)), .int .i64 ((x.caps 6)), .int .i64 ((x.caps 7)), .int .i64 ((x.caps 8)), .int .i64 ((x.caps 9)), .int .i64 ((x.caps 10))]
def Policy.Ok (okS : Nat → Prop) (okL : TypeId → Nat → Prop) (x : Policy) : Prop := (∃ c, x.rules.length ≤ c ∧ (c = 0 ∨ okL 105 c)) ∧ (∀ y ∈ x.rules, Rule.Ok okS okL y) ∧ okS = okS ∧ okL = okL ∧ x = x
set_option maxRecDepth 100000 in
theorem Policy.of {okS : Nat → Prop} {okL : TypeId → Nat → Prop} {n : Nat} {us : List V} (h : Typed Tryz.prog okS okL n 32 us) : ∃ x : Policy, V.agg us = x.v ∧ x.Ok okS okL := by
  obtain ⟨q, hl, hf⟩ := ty_struct Tryz.underlying32 h
  have e : Tryz.prog.cellsOf 32 = 13 := by kernel_rfl
  rw [e] at hl
  match us, hl with
  | [c0, c1, c2, c3, c4, c5, c6, c7, c8, c9, c10, c11, c12], _ =>
    have h0 := ty_field hf 0 0 1 29 rfl rfl rfl (by kernel_rfl)
    obtain ⟨a0, e0, o0, b0⟩ := ty_slice Rule.v (fun a => Rule.Ok okS okL a) Tryz.underlying29 h0 (fun m x hx => by obtain ⟨a, h1, h2⟩ := Rule.of hx; exact ⟨a, by rw [mk_agg (by kernel_rfl)]; exact h1, h2⟩)
    cases e0
    have h1 := ty_field hf 1 1 1 3 rfl rfl rfl (by kernel_rfl)
    obtain ⟨a1, e1⟩ := ty_int Tryz.underlying3 h1
    cases e1
    have h2 := ty_field hf 2 2 11 30 rfl rfl rfl (by kernel_rfl)
    obtain ⟨q2, _, g2⟩ := ty_array Tryz.underlying30 h2
    have g2_0 := g2 0 (by decide)
    rw [show Tryz.prog.cellsOf 3 = 1 from by kernel_rfl] at g2_0
    obtain ⟨a2_0, e2_0⟩ := ty_int Tryz.underlying3 g2_0
    cases e2_0
    have g2_1 := g2 1 (by decide)
    rw [show Tryz.prog.cellsOf 3 = 1 from by kernel_rfl] at g2_1
    obtain ⟨a2_1, e2_1⟩ := ty_int Tryz.underlying3 g2_1
    cases e2_1
    have g2_2 := g2 2 (by decide)
    rw [show Tryz.prog.cellsOf 3 = 1 from by kernel_rfl] at g2_2
    obtain ⟨a2_2, e2_2⟩ := ty_int Tryz.underlying3 g2_2
    cases e2_2
    have g2_3 := g2 3 (by decide)
    rw [show Tryz.prog.cellsOf 3 = 1 from by kernel_rfl] at g2_3
    obtain ⟨a2_3, e2_3⟩ := ty_int Tryz.underlying3 g2_3
    cases e2_3
    have g2_4 := g2 4 (by decide)
    rw [show Tryz.prog.cellsOf 3 = 1 from by kernel_rfl] at g2_4
    obtain ⟨a2_4, e2_4⟩ := ty_int Tryz.underlying3 g2_4
    cases e2_4
    have g2_5 := g2 5 (by decide)
    rw [show Tryz.prog.cellsOf 3 = 1 from by kernel_rfl] at g2_5
    obtain ⟨a2_5, e2_5⟩ := ty_int Tryz.underlying3 g2_5
    cases e2_5
    have g2_6 := g2 6 (by decide)
    rw [show Tryz.prog.cellsOf 3 = 1 from by kernel_rfl] at g2_6
    obtain ⟨a2_6, e2_6⟩ := ty_int Tryz.underlying3 g2_6
    cases e2_6
    have g2_7 := g2 7 (by decide)
    rw [show Tryz.prog.cellsOf 3 = 1 from by kernel_rfl] at g2_7
    obtain ⟨a2_7, e2_7⟩ := ty_int Tryz.underlying3 g2_7
    cases e2_7
    have g2_8 := g2 8 (by decide)
    rw [show Tryz.prog.cellsOf 3 = 1 from by kernel_rfl] at g2_8
    obtain ⟨a2_8, e2_8⟩ := ty_int Tryz.underlying3 g2_8
    cases e2_8
    have g2_9 := g2 9 (by decide)
    rw [show Tryz.prog.cellsOf 3 = 1 from by kernel_rfl] at g2_9
    obtain ⟨a2_9, e2_9⟩ := ty_int Tryz.underlying3 g2_9
    cases e2_9
    have g2_10 := g2 10 (by decide)
    rw [show Tryz.prog.cellsOf 3 = 1 from by kernel_rfl] at g2_10
    obtain ⟨a2_10, e2_10⟩ := ty_int Tryz.underlying3 g2_10
    cases e2_10
    exact ⟨⟨a0, a1, fun i => [a2_0, a2_1, a2_2, a2_3, a2_4, a2_5, a2_6, a2_7, a2_8, a2_9, a2_10].getD i 0⟩, rfl, b0, o0, rfl, rfl, rfl⟩
structure Consent where
  given : Int
  purposes : Nat → Bool
  vendors : List Int
abbrev Consent.v (x : Consent) : V := .agg [.int .i64 x.given, .bool ((x.purposes 0)), .bool ((x.purposes 1)), .bool ((x.purposes 2)), .bool ((x.purposes 3)), .bool ((x.purposes 4)), .bool ((x.purposes 5)), .bool ((x.purposes 6)), .bool ((x.purposes 7)), .bool ((x.purposes 8)), .bool ((x.purposes 9)), .fro (x.vendors.map (V.int .i64))]
def Consent.Ok (okS : Nat → Prop) (okL : TypeId → Nat → Prop) (x : Consent) : Prop := (∃ c, x.vendors.length ≤ c ∧ (c = 0 ∨ okL 3 c)) ∧ okS = okS ∧ okL = okL ∧ x = x
set_option maxRecDepth 100000 in
theorem Consent.of {okS : Nat → Prop} {okL : TypeId → Nat → Prop} {n : Nat} {us : List V} (h : Typed Tryz.prog okS okL n 36 us) : ∃ x : Consent, V.agg us = x.v ∧ x.Ok okS okL := by
  obtain ⟨q, hl, hf⟩ := ty_struct Tryz.underlying36 h
  have e : Tryz.prog.cellsOf 36 = 12 := by kernel_rfl
  rw [e] at hl
  match us, hl with
  | [c0, c1, c2, c3, c4, c5, c6, c7, c8, c9, c10, c11], _ =>
    have h0 := ty_field hf 0 0 1 3 rfl rfl rfl (by kernel_rfl)
    obtain ⟨a0, e0⟩ := ty_int Tryz.underlying3 h0
    cases e0
    have h1 := ty_field hf 1 1 10 33 rfl rfl rfl (by kernel_rfl)
    obtain ⟨q1, _, g1⟩ := ty_array Tryz.underlying33 h1
    have g1_0 := g1 0 (by decide)
    rw [show Tryz.prog.cellsOf 4 = 1 from by kernel_rfl] at g1_0
    obtain ⟨a1_0, e1_0⟩ := ty_bool Tryz.underlying4 g1_0
    cases e1_0
    have g1_1 := g1 1 (by decide)
    rw [show Tryz.prog.cellsOf 4 = 1 from by kernel_rfl] at g1_1
    obtain ⟨a1_1, e1_1⟩ := ty_bool Tryz.underlying4 g1_1
    cases e1_1
    have g1_2 := g1 2 (by decide)
    rw [show Tryz.prog.cellsOf 4 = 1 from by kernel_rfl] at g1_2
    obtain ⟨a1_2, e1_2⟩ := ty_bool Tryz.underlying4 g1_2
    cases e1_2
    have g1_3 := g1 3 (by decide)
    rw [show Tryz.prog.cellsOf 4 = 1 from by kernel_rfl] at g1_3
    obtain ⟨a1_3, e1_3⟩ := ty_bool Tryz.underlying4 g1_3
    cases e1_3
    have g1_4 := g1 4 (by decide)
    rw [show Tryz.prog.cellsOf 4 = 1 from by kernel_rfl] at g1_4
    obtain ⟨a1_4, e1_4⟩ := ty_bool Tryz.underlying4 g1_4
    cases e1_4
    have g1_5 := g1 5 (by decide)
    rw [show Tryz.prog.cellsOf 4 = 1 from by kernel_rfl] at g1_5
    obtain ⟨a1_5, e1_5⟩ := ty_bool Tryz.underlying4 g1_5
    cases e1_5
    have g1_6 := g1 6 (by decide)
    rw [show Tryz.prog.cellsOf 4 = 1 from by kernel_rfl] at g1_6
    obtain ⟨a1_6, e1_6⟩ := ty_bool Tryz.underlying4 g1_6
    cases e1_6
    have g1_7 := g1 7 (by decide)
    rw [show Tryz.prog.cellsOf 4 = 1 from by kernel_rfl] at g1_7
    obtain ⟨a1_7, e1_7⟩ := ty_bool Tryz.underlying4 g1_7
    cases e1_7
    have g1_8 := g1 8 (by decide)
    rw [show Tryz.prog.cellsOf 4 = 1 from by kernel_rfl] at g1_8
    obtain ⟨a1_8, e1_8⟩ := ty_bool Tryz.underlying4 g1_8
    cases e1_8
    have g1_9 := g1 9 (by decide)
    rw [show Tryz.prog.cellsOf 4 = 1 from by kernel_rfl] at g1_9
    obtain ⟨a1_9, e1_9⟩ := ty_bool Tryz.underlying4 g1_9
    cases e1_9
    have h2 := ty_field hf 2 11 1 34 rfl rfl rfl (by kernel_rfl)
    obtain ⟨a2, e2, o2, b2⟩ := ty_slice (V.int .i64) (fun _ => True) Tryz.underlying34 h2 (fun m x hx => by obtain ⟨a, rfl⟩ := ty_int Tryz.underlying3 hx; exact ⟨a, mk_one (by kernel_rfl), trivial⟩)
    cases e2
    exact ⟨⟨a0, fun i => [a1_0, a1_1, a1_2, a1_3, a1_4, a1_5, a1_6, a1_7, a1_8, a1_9].getD i false, a2⟩, rfl, b2, rfl, rfl, rfl⟩
structure Attr where
  name : List UInt8
  value : List UInt8
abbrev Attr.v (x : Attr) : V := .agg [.str (str x.name), .str (str x.value)]
def Attr.Ok (okS : Nat → Prop) (okL : TypeId → Nat → Prop) (x : Attr) : Prop := okS x.name.length ∧ okS x.value.length ∧ okS = okS ∧ okL = okL ∧ x = x
set_option maxRecDepth 100000 in
theorem Attr.of {okS : Nat → Prop} {okL : TypeId → Nat → Prop} {n : Nat} {us : List V} (h : Typed Tryz.prog okS okL n 81 us) : ∃ x : Attr, V.agg us = x.v ∧ x.Ok okS okL := by
  obtain ⟨q, hl, hf⟩ := ty_struct Tryz.underlying81 h
  have e : Tryz.prog.cellsOf 81 = 2 := by kernel_rfl
  rw [e] at hl
  match us, hl with
  | [c0, c1], _ =>
    have h0 := ty_field hf 0 0 1 9 rfl rfl rfl (by kernel_rfl)
    obtain ⟨a0, e0, o0⟩ := ty_strL Tryz.underlying9 h0
    cases e0
    have h1 := ty_field hf 1 1 1 9 rfl rfl rfl (by kernel_rfl)
    obtain ⟨a1, e1, o1⟩ := ty_strL Tryz.underlying9 h1
    cases e1
    exact ⟨⟨a0, a1⟩, rfl, o0, o1, rfl, rfl, rfl⟩
end Go.Proofs.YtepnalbefjicgaaGreatDoor.Abs
end
