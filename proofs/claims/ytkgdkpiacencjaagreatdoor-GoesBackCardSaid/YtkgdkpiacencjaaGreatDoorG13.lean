/- Texts of the proof, joined: DateA, Rune, ClockW, ClockO, ClockR, ClockT, ClockI. -/
import Derived.Test.YtkgdkpiacencjaaGreatDoorG9
import Derived.Test.YtkgdkpiacencjaaGreatDoorG11
import Derived.Test.YtkgdkpiacencjaaGreatDoorG12
import Derived.Test.YtkgdkpiacencjaaGreatDoorG7
import Derived.Test.YtkgdkpiacencjaaGreatDoorG10
import Derived.Lib.IndexMore
import Derived.Lib.SpaceUEq
import Derived.Lib.MapLaws
import Derived.Test.YtkgdkpiacencjaaGreatDoorProg
import Derived.WalkKit
import Derived.WalkLawsBesides
import Derived.WalkSpells
import Derived.Lib.Hide
import Derived.Deep.QuietTactic
import Derived.BigQuiet
import Derived.Outline
import Derived.Below
import Derived.Deep.Light
import Derived.LoopTactic
section
namespace Go.Proofs.YtkgdkpiacencjaaGreatDoor.StampP
open Abs WordP WordS HostP HostO PathT

/-- Does it part words? -/
def sepI (n : Int) : Bool := decide (n = 9) || (decide (32 ≤ n) && decide (n ≤ 47)) || (decide (59 ≤ n) && decide (n ≤ 64)) || (decide (91 ≤ n) && decide (n ≤ 96)) || (decide (123 ≤ n) && decide (n ≤ 126))
def sepB (c : UInt8) : Bool := sepI (c.toNat : Int)
def wordsG (cur : List UInt8) : List UInt8 → List (List UInt8)
  | [] => if cur = [] then [] else [cur]
  | c :: r => if sepB c then (if cur = [] then wordsG [] r else cur :: wordsG [] r) else wordsG (cur ++ [c]) r
def wordsF (s : List UInt8) : List (List UInt8) := wordsG [] s
def lowB (c : UInt8) : UInt8 := if 126 < c.toNat then 122 else c
/-- Digits, from so many to so many: the number, and what is left. -/
def digF (w : List UInt8) (lo hi : Nat) : Int × List UInt8 × Bool := if hi < (lead w).length then (0, [], false) else ((value (lead w) : Nat), w.drop (lead w).length, decide (lo ≤ (lead w).length))
structure RD where
  y : Int
  m : Int
  d : Int
  h : Int
  mi : Int
  s : Int
  f0 : Bool
  f1 : Bool
  f2 : Bool
  f3 : Bool
abbrev RD.v (r : RD) : V := .agg [.int .i64 r.y, .int .i64 r.m, .int .i64 r.d, .int .i64 r.h, .int .i64 r.mi, .int .i64 r.s, .bool r.f0, .bool r.f1, .bool r.f2, .bool r.f3]
def rd0 : RD := ⟨0, 0, 0, 0, 0, 0, false, false, false, false⟩
/-- The time of day: whether the word tells one, and what it has then told. -/
def dayTimeF (w : List UInt8) (h mi s : Int) : Bool × Int × Int × Int :=
  if (digF w 1 2).2.2 = false then (false, h, mi, s) else
  if (cutP (digF w 1 2).2.1 [58]).2 = false then (false, (digF w 1 2).1, mi, s) else
  if (digF (cutP (digF w 1 2).2.1 [58]).1 1 2).2.2 = false then (false, (digF w 1 2).1, mi, s) else
  if (cutP (digF (cutP (digF w 1 2).2.1 [58]).1 1 2).2.1 [58]).2 = false then (false, (digF w 1 2).1, (digF (cutP (digF w 1 2).2.1 [58]).1 1 2).1, s) else
  if (digF (cutP (digF (cutP (digF w 1 2).2.1 [58]).1 1 2).2.1 [58]).1 1 2).2.2 = false then (false, (digF w 1 2).1, (digF (cutP (digF w 1 2).2.1 [58]).1 1 2).1, s) else
  (true, (digF w 1 2).1, (digF (cutP (digF w 1 2).2.1 [58]).1 1 2).1, (digF (cutP (digF (cutP (digF w 1 2).2.1 [58]).1 1 2).2.1 [58]).1 1 2).1)
def months : List (List UInt8) := [([106, 97, 110] : List UInt8), ([102, 101, 98] : List UInt8), ([109, 97, 114] : List UInt8), ([97, 112, 114] : List UInt8), ([109, 97, 121] : List UInt8), ([106, 117, 110] : List UInt8), ([106, 117, 108] : List UInt8), ([97, 117, 103] : List UInt8), ([115, 101, 112] : List UInt8), ([111, 99, 116] : List UInt8), ([110, 111, 118] : List UInt8), ([100, 101, 99] : List UInt8)]
/-- The month of a word; 0: none. -/
def monthF (w : List UInt8) : Nat := if w.length < 3 then 0 else match months.findIdx? (fun m => fold (w.take 3) == m) with
  | some i => i + 1
  | none => 0
def yearF (n : Int) : Int := if n < 70 then n + 2000 else if n < 100 then n + 1900 else n
/-- A word that is taken: the first thing that it may be. -/
def takeF (r : RD) (w : List UInt8) : RD :=
  if !r.f0 && (dayTimeF w r.h r.mi r.s).1 then { r with h := (dayTimeF w r.h r.mi r.s).2.1, mi := (dayTimeF w r.h r.mi r.s).2.2.1, s := (dayTimeF w r.h r.mi r.s).2.2.2, f0 := true } else
  if !r.f1 && (digF w 1 2).2.2 then { r with d := (digF w 1 2).1, f1 := true } else
  if !r.f2 && decide (0 < monthF w) then { r with m := (monthF w : Nat), f2 := true } else
  if !r.f3 && (digF w 2 4).2.2 then { r with y := yearF (digF w 2 4).1, f3 := true } else r
theorem value_lt (w : List UInt8) (n : Nat) (h : (lead w).length ≤ n) : value (lead w) < 10 ^ n := by
  have h1 := value_le _ (lead_all w)
  have h2 : 10 ^ (lead w).length ≤ 10 ^ n := Nat.pow_le_pow_right (by decide) h
  omega
theorem dig_range (w : List UInt8) (lo hi : Nat) : 0 ≤ (digF w lo hi).1 ∧ (digF w lo hi).1 < (10 : Nat) ^ hi := by
  unfold digF
  split
  · refine ⟨Int.le_refl _, ?_⟩
    show (0 : Int) < ((10 ^ hi : Nat) : Int)
    exact Int.ofNat_lt.2 (Nat.pow_pos (by decide))
  · refine ⟨Int.natCast_nonneg _, ?_⟩
    show ((value (lead w) : Nat) : Int) < ((10 ^ hi : Nat) : Int)
    exact Int.ofNat_lt.2 (value_lt w hi (by omega))
end Go.Proofs.YtkgdkpiacencjaaGreatDoor.StampP
namespace Go.Proofs.YtkgdkpiacencjaaGreatDoor.StampA
open Go.RowKit Mem Abs TreeW WordP WordS HostP HostO HostA PathT StampP Lead

set_option maxRecDepth 100000 in
set_option maxHeartbeats 4000000 in
theorem parts_v {n : Int} : ACalls Tryz.prog 101 [.int .i32 n] (.bool (sepI n)) := by
  refine fun1 tb_ok Tryz.func101 rfl Tryz.ntmps101 Tryz.results101 rfl fun N => ?_
  unfold sepI
  repeat' (first | refine zt ?_ | (refine isR ?_; first | refine zo ?_ | refine zc2 ?_ | refine zc4 ?_ | refine zc5 ?_ | (refine zs2 ?_ ?_ <;> intro hc) | (refine zs4 ?_ ?_ <;> intro hc) | (refine zs5 ?_ ?_ <;> intro hc)) | refine awp_split rfl (fun hb => ?_) (fun hb => ?_) | refine zr ?_ | exact x_le)
  all_goals (show V.bool _ = V.bool _; first | (simp [*]; done) | (simp [*]; omega))
set_option maxRecDepth 100000 in
set_option maxHeartbeats 4000000 in
theorem partsWords_v {c : UInt8} : ACalls Tryz.prog 133 [byteT c] (.bool (sepB c)) := by
  have hc := c.toNat_lt
  refine fun1 tb_ok Tryz.func133 rfl Tryz.ntmps133 Tryz.results133 rfl fun N => ?_
  unfold sepB sepI
  repeat' (first | refine zt ?_ | (refine isR ?_; first | refine zo ?_ | refine zc2 ?_ | refine zc4 ?_ | refine zc5 ?_ | refine zB ?_ | (refine zs2 ?_ ?_ <;> intro hc) | (refine zs4 ?_ ?_ <;> intro hc) | (refine zs5 ?_ ?_ <;> intro hc)) | refine awp_split rfl (fun hb => ?_) (fun hb => ?_) | refine zr ?_ | exact x_le)
  all_goals (show V.bool _ = V.bool _; first | (simp [*]; done) | (simp [*]; omega))
theorem lead_len (w : List UInt8) : (lead w).length ≤ w.length := by
  unfold lead
  exact (List.takeWhile_sublist _).length_le
theorem lead_is {w : List UInt8} {k : Nat} (hk : k ≤ w.length) (h : Upto digB w k) (he : ∀ c, w[k]? = some c → digB c = false) : (lead w).length = k := by
  rw [lead_at hk h he, List.length_take, Nat.min_eq_left hk]
theorem lead_more {w : List UInt8} {k : Nat} {c : UInt8} (h : Upto digB w k) (hc : w[k]? = some c) (hd : digB c = true) : k < (lead w).length := by
  induction w generalizing k with
  | nil => simp at hc
  | cons b r ih =>
    unfold lead
    cases k with
    | zero =>
      simp at hc; subst hc
      rw [List.takeWhile_cons, if_pos hd]; simp
    | succ k =>
      rw [List.takeWhile_cons, if_pos (h 0 b (by omega) rfl)]
      have := ih (k := k) (fun j y hj hy => h (j + 1) y (by omega) (by simpa using hy)) (by simpa using hc)
      unfold lead at this
      simp; omega
theorem value_take {w : List UInt8} {k : Nat} {c : UInt8} (h : w[k]? = some c) : value (w.take (k + 1)) = 10 * value (w.take k) + (c.toNat - 48) := by
  obtain ⟨hk, rfl⟩ := List.getElem?_eq_some_iff.1 h
  rw [List.take_succ_eq_append_getElem hk, value_snoc]
theorem value_bound {w : List UInt8} {k : Nat} (h : Upto digB w k) (hk : k ≤ 4) : value (w.take k) < 10000 := by
  have h1 := value_le _ (upto_take h)
  have h2 : 10 ^ (w.take k).length ≤ 10 ^ 4 := Nat.pow_le_pow_right (by decide) (by simp; omega)
  omega
set_option maxRecDepth 100000 in
set_option maxHeartbeats 4000000 in
theorem digits_v {w : List UInt8} {lo hi : Nat} (_hlo : lo ≤ 4) (hhi : hi ≤ 4) : ACalls Tryz.prog 157 [strT w, .int .i64 (lo : Int), .int .i64 (hi : Int)] (.tup [.int .i64 (digF w lo hi).1, strT (digF w lo hi).2.1, .bool (digF w lo hi).2.2]) := ACalls.lim fun hl => by
  obtain ⟨hl, _⟩ := TreeW.str_lim hl
  refine fun3 tb_ok Tryz.func157 rfl Tryz.ntmps157 Tryz.results157 rfl fun N => ?_
  repeat' (first | refine zt ?_ | (refine isR ?_; first | refine zo ?_ | refine zA ?_ | refine zL ?_ | refine zc1 ?_ | refine zc2 ?_ | refine zc3 ?_ | refine zc4 ?_ | refine zI ?_ | refine zS ?_ | refine zB ?_ | (refine zs1 ?_ ?_ <;> intro hc) | (refine zs2 ?_ ?_ <;> intro hc) | (refine zs3 ?_ ?_ <;> intro hc) | (refine zs4 ?_ ?_ <;> intro hc)) | refine awp_split rfl (fun hb => ?_) (fun hb => ?_) | refine zr ?_ | exact x_le)
  refine awp_for (fun k => ⟨[(0, strT w), (1, .int .i64 (lo : Int)), (2, .int .i64 (hi : Int)), (6, .int .i64 ((value (w.take k) : Nat) : Int)), (9, .int .i64 (k : Int))], [], 0, 47⟩) (fun k => k ≤ w.length ∧ k ≤ hi ∧ Upto digB w k) w.length 0 (by exact x_le) ⟨Nat.zero_le _, Nat.zero_le _, upto0⟩ ?_
  intro k ⟨hk, hk4, hq⟩
  have hv := value_bound hq (by omega)
  have fin : (∀ c, w[k]? = some c → digB c = false) → digF w lo hi = (((value (w.take k) : Nat) : Int), w.drop k, decide (lo ≤ k)) := fun he => by
    unfold digF
    rw [lead_is hk hq he, if_neg (by omega), lead_at hk hq he]
  by_cases hk2 : k < w.length
  · have e1 : w[k]? = some w[k] := by simp [hk2]
    have e1' : w[((k : Int) + 1 - 1).toNat]? = some w[k] := by rw [show ((k : Int) + 1 - 1).toNat = k by omega]; exact e1
    have e2 := value_take e1
    generalize w[k] = c at e1 e1' e2
    have hc := c.toNat_lt
    cases hd : digB c with
    | true =>
      have hn := dig_nat hd
      by_cases h4 : k + 1 ≤ hi
      · have hw : IntKind.u8.wrap ((c.toNat : Int) - 48) = ((c.toNat - 48 : Nat) : Int) := by
          simp only [IntKind.wrap, IntKind.bits, IntKind.signed]; simp; omega
        generalize hm : value (w.take k) = m at *
        rw [e2]
        repeat' (first | refine zt ?_ | (refine isR ?_; first | refine zo ?_ | refine x_subK ?_ | refine zA ?_ | refine zL ?_ | refine zc1 ?_ | refine zc2 ?_ | refine zc3 ?_ | refine zc4 ?_ | refine zI ?_ | refine zS ?_ | refine zB ?_ | (refine zs1 ?_ ?_ <;> intro hc) | (refine zs2 ?_ ?_ <;> intro hc) | (refine zs3 ?_ ?_ <;> intro hc) | (refine zs4 ?_ ?_ <;> intro hc)) | refine awp_split rfl (fun hb => ?_) (fun hb => ?_) | refine zr ?_ | exact x_le)
        refine ⟨⟨by omega, h4, hq.on e1 hd⟩, hk2, ?_⟩
        rw [show ((10 * m + (c.toNat - 48) : Nat) : Int) = 10 * (m : Int) + ((c.toNat - 48 : Nat) : Int) by omega]
        exact (by exact x_le)
      · have : hi < (lead w).length := by have := lead_more hq e1 hd; omega
        have e : digF w lo hi = (0, [], false) := by unfold digF; rw [if_pos this]
        rw [e]
        repeat' (first | refine zt ?_ | (refine isR ?_; first | refine zo ?_ | refine zA ?_ | refine zL ?_ | refine zc1 ?_ | refine zc2 ?_ | refine zc3 ?_ | refine zc4 ?_ | refine zI ?_ | refine zS ?_ | refine zB ?_ | (refine zs1 ?_ ?_ <;> intro hc) | (refine zs2 ?_ ?_ <;> intro hc) | (refine zs3 ?_ ?_ <;> intro hc) | (refine zs4 ?_ ?_ <;> intro hc)) | refine awp_split rfl (fun hb => ?_) (fun hb => ?_) | refine zr ?_ | exact x_le)
        rfl
    | false =>
      rw [fin fun x hx => by rw [e1] at hx; cases hx; exact hd]
      unfold digB at hd
      simp only [Bool.and_eq_false_iff, decide_eq_false_iff_not] at hd
      by_cases hlk : lo ≤ k
      · rw [decide_eq_true hlk]
        repeat' (first | refine zt ?_ | (refine isR ?_; first | refine zo ?_ | refine zA ?_ | refine zL ?_ | refine zc1 ?_ | refine zc2 ?_ | refine zc3 ?_ | refine zc4 ?_ | refine zI ?_ | refine zS ?_ | refine zB ?_ | (refine zs1 ?_ ?_ <;> intro hc) | (refine zs2 ?_ ?_ <;> intro hc) | (refine zs3 ?_ ?_ <;> intro hc) | (refine zs4 ?_ ?_ <;> intro hc)) | refine awp_split rfl (fun hb => ?_) (fun hb => ?_) | refine zr ?_ | exact x_le)
        all_goals first | rfl | (exfalso; omega)
      · rw [decide_eq_false hlk]
        repeat' (first | refine zt ?_ | (refine isR ?_; first | refine zo ?_ | refine zA ?_ | refine zL ?_ | refine zc1 ?_ | refine zc2 ?_ | refine zc3 ?_ | refine zc4 ?_ | refine zI ?_ | refine zS ?_ | refine zB ?_ | (refine zs1 ?_ ?_ <;> intro hc) | (refine zs2 ?_ ?_ <;> intro hc) | (refine zs3 ?_ ?_ <;> intro hc) | (refine zs4 ?_ ?_ <;> intro hc)) | refine awp_split rfl (fun hb => ?_) (fun hb => ?_) | refine zr ?_ | exact x_le)
        all_goals first | rfl | (exfalso; omega)
  · rw [fin fun x hx => by have := (List.getElem?_eq_some_iff.1 hx).1; omega]
    by_cases hlk : lo ≤ k
    · rw [decide_eq_true hlk]
      repeat' (first | refine zt ?_ | (refine isR ?_; first | refine zo ?_ | refine zA ?_ | refine zL ?_ | refine zc1 ?_ | refine zc2 ?_ | refine zc3 ?_ | refine zc4 ?_ | refine zI ?_ | refine zS ?_ | refine zB ?_ | (refine zs1 ?_ ?_ <;> intro hc) | (refine zs2 ?_ ?_ <;> intro hc) | (refine zs3 ?_ ?_ <;> intro hc) | (refine zs4 ?_ ?_ <;> intro hc)) | refine awp_split rfl (fun hb => ?_) (fun hb => ?_) | refine zr ?_ | exact x_le)
      rfl
    · rw [decide_eq_false hlk]
      repeat' (first | refine zt ?_ | (refine isR ?_; first | refine zo ?_ | refine zA ?_ | refine zL ?_ | refine zc1 ?_ | refine zc2 ?_ | refine zc3 ?_ | refine zc4 ?_ | refine zI ?_ | refine zS ?_ | refine zB ?_ | (refine zs1 ?_ ?_ <;> intro hc) | (refine zs2 ?_ ?_ <;> intro hc) | (refine zs3 ?_ ?_ <;> intro hc) | (refine zs4 ?_ ?_ <;> intro hc)) | refine awp_split rfl (fun hb => ?_) (fun hb => ?_) | refine zr ?_ | exact x_le)
      rfl
end Go.Proofs.YtkgdkpiacencjaaGreatDoor.StampA
namespace Go.Proofs.YtkgdkpiacencjaaGreatDoor.StampB
open Go.RowKit Mem Abs TreeW WordP WordS HostP HostO HostA PathT StampP StampA Lead

abbrev rowR (r : RD) : Blk := .els 109 10 [r.v]
/-- What is known of the package's variables tells of bytealg's number. -/
def HasMax (g : Glob) : Prop := 0 < g.n ∧ ∀ h, g.P h → ∃ m T fr, h 0 = some (.cells #[.int .i64 m] T fr)
theorem max_cell {g : Glob} {X : Nat → Prop} {w : World} (hg : HasMax g) (h : GlOk g X w) : ∃ m, w.cell? ⟨0, 0, none⟩ = some (.int .i64 m) := by
  obtain ⟨m, T, fr, hm⟩ := hg.2 _ h.2.2
  simp only [hg.1, if_true] at hm
  exact ⟨m, by simp [World.cell?, hm]⟩
theorem index_v {g : Glob} (hg : HasMax g) {l m : List UInt8} (hl : l.length < 4294967281) : ACallsG Tryz.prog g 85 [strT l, strT m] (.int .i64 (Lib.index l m)) := fun N w vs hG hN hlen hv => by
  obtain ⟨vs⟩ := vs
  match vs, hlen with
  | [x0, x1], _ =>
    obtain ⟨rfl, h0⟩ := fz_str (hv 0 _ x0 rfl rfl)
    obtain ⟨rfl, h1⟩ := fz_str (hv 1 _ x1 rfl rfl)
    obtain ⟨k, hk⟩ := max_cell hg hG
    refine (Tryz.strings_Index (str l) (str m) k w (by rw [str_size]; exact hl) hk).mono fun e w' ⟨g1, g2⟩ => ⟨_, g1, g2 ▸ Below.refl _ _, ?_⟩
    rw [str_toList, str_toList]
    have k1 := Lib.index_ge l m
    have k2 := Lib.index_le l m
    exact .int ⟨by simp only [rng]; omega, by simp only [rng]; omega⟩
set_option maxRecDepth 100000 in
set_option maxHeartbeats 4000000 in
theorem day_v {r : RD} {w : List UInt8} : MCalls Tryz.prog 124 [.loc 0 0 0, strT w] [rowR r] (.bool (digF w 1 2).2.2) [some (rowR { r with d := (digF w 1 2).1 })] := by
  have c1 := digits_v (w := w) (lo := 1) (hi := 2) (by decide) (by decide)
  generalize digF w 1 2 = q at *
  obtain ⟨r1, r2, r3, r4, r5, r6, r7, r8, r9, r10⟩ := r
  obtain ⟨q1, q2, q3⟩ := q
  dsimp only at *
  refine mfun tb_ok Tryz.func124 rfl Tryz.ntmps124 Tryz.results124 rfl rfl rfl rfl fun N pl => ?_
  repeat' (first | refine zt ?_ | (refine isR ?_; first | refine zo ?_ | refine zk c1 ?_) | refine awp_split rfl (fun hb => ?_) (fun hb => ?_) | refine x_mret [0] ?_ ?_ | refine x_mnor [0] ?_ ?_ | refine zr ?_ | exact x_le)
  · rfl
  · exact .on (.ren rfl) .nil
set_option maxRecDepth 100000 in
set_option maxHeartbeats 4000000 in
theorem year_v {r : RD} {w : List UInt8} : MCalls Tryz.prog 126 [.loc 0 0 0, strT w] [rowR r] (.bool (digF w 2 4).2.2) [some (rowR { r with y := yearF (digF w 2 4).1 })] := by
  have c1 := digits_v (w := w) (lo := 2) (hi := 4) (by decide) (by decide)
  have hr := dig_range w 2 4
  generalize digF w 2 4 = q at *
  obtain ⟨r1, r2, r3, r4, r5, r6, r7, r8, r9, r10⟩ := r
  obtain ⟨q1, q2, q3⟩ := q
  dsimp only at *
  have hr2 : q1 < 10000 := hr.2
  by_cases h1 : q1 < 70
  · rw [show yearF q1 = q1 + 2000 by unfold yearF; rw [if_pos h1]]
    refine mfun tb_ok Tryz.func126 rfl Tryz.ntmps126 Tryz.results126 rfl rfl rfl rfl fun N pl => ?_
    repeat' (first | refine zt ?_ | (refine isR ?_; first | refine zo ?_ | refine zk c1 ?_ | refine zA ?_ | refine zc1 ?_ | (refine zs1 ?_ ?_ <;> intro hc)) | refine awp_split rfl (fun hb => ?_) (fun hb => ?_) | refine x_mret [0] ?_ ?_ | refine x_mnor [0] ?_ ?_ | refine zr ?_ | exact x_le)
    · rfl
    · exact .on (.ren rfl) .nil
  · by_cases h2 : q1 < 100
    · rw [show yearF q1 = q1 + 1900 by unfold yearF; rw [if_neg h1, if_pos h2]]
      refine mfun tb_ok Tryz.func126 rfl Tryz.ntmps126 Tryz.results126 rfl rfl rfl rfl fun N pl => ?_
      repeat' (first | refine zt ?_ | (refine isR ?_; first | refine zo ?_ | refine zk c1 ?_ | refine zA ?_ | refine zc1 ?_ | (refine zs1 ?_ ?_ <;> intro hc)) | refine awp_split rfl (fun hb => ?_) (fun hb => ?_) | refine x_mret [0] ?_ ?_ | refine x_mnor [0] ?_ ?_ | refine zr ?_ | exact x_le)
      · rfl
      · exact .on (.ren rfl) .nil
    · rw [show yearF q1 = q1 by unfold yearF; rw [if_neg h1, if_neg h2]]
      refine mfun tb_ok Tryz.func126 rfl Tryz.ntmps126 Tryz.results126 rfl rfl rfl rfl fun N pl => ?_
      repeat' (first | refine zt ?_ | (refine isR ?_; first | refine zo ?_ | refine zk c1 ?_ | refine zA ?_ | refine zc1 ?_ | (refine zs1 ?_ ?_ <;> intro hc)) | refine awp_split rfl (fun hb => ?_) (fun hb => ?_) | refine x_mret [0] ?_ ?_ | refine x_mnor [0] ?_ ?_ | refine zr ?_ | exact x_le)
      · rfl
      · exact .on (.ren rfl) .nil
set_option maxRecDepth 100000 in
set_option maxHeartbeats 4000000 in
theorem ofDay_v {r : RD} {w : List UInt8} : MCalls Tryz.prog 123 [.loc 0 0 0, strT w] [rowR r] (.bool (dayTimeF w r.h r.mi r.s).1) [some (rowR { r with h := (dayTimeF w r.h r.mi r.s).2.1, mi := (dayTimeF w r.h r.mi r.s).2.2.1, s := (dayTimeF w r.h r.mi r.s).2.2.2 })] := by
  have c1 := digits_v (w := w) (lo := 1) (hi := 2) (by decide) (by decide)
  have c2 := cutPrefix_v (l := (digF w 1 2).2.1) (m := [58])
  have c3 := digits_v (w := (cutP (digF w 1 2).2.1 [58]).1) (lo := 1) (hi := 2) (by decide) (by decide)
  have c4 := cutPrefix_v (l := (digF (cutP (digF w 1 2).2.1 [58]).1 1 2).2.1) (m := [58])
  have c5 := digits_v (w := (cutP (digF (cutP (digF w 1 2).2.1 [58]).1 1 2).2.1 [58]).1) (lo := 1) (hi := 2) (by decide) (by decide)
  unfold dayTimeF
  generalize digF (cutP (digF (cutP (digF w 1 2).2.1 [58]).1 1 2).2.1 [58]).1 1 2 = q5 at *
  generalize cutP (digF (cutP (digF w 1 2).2.1 [58]).1 1 2).2.1 [58] = q4 at *
  generalize digF (cutP (digF w 1 2).2.1 [58]).1 1 2 = q3 at *
  generalize cutP (digF w 1 2).2.1 [58] = q2 at *
  generalize digF w 1 2 = q1 at *
  obtain ⟨r1, r2, r3, r4, r5, r6, r7, r8, r9, r10⟩ := r
  obtain ⟨q11, q12, q13⟩ := q1
  obtain ⟨q21, q22⟩ := q2
  obtain ⟨q31, q32, q33⟩ := q3
  obtain ⟨q41, q42⟩ := q4
  obtain ⟨q51, q52, q53⟩ := q5
  dsimp only at *
  cases q13
  · rw [if_pos rfl]
    refine mfun tb_ok Tryz.func123 rfl Tryz.ntmps123 Tryz.results123 rfl rfl rfl rfl fun N pl => ?_
    repeat' (first | with_reducible refine rounds_on ?_ | with_reducible refine awp_rounds 4 ?_ | refine zt ?_ | (refine isR ?_; first | refine zo ?_ | refine zk c1 ?_ | refine zA ?_ | refine zc1 ?_ | refine zc3 ?_ | refine zI ?_ | (refine zs1 ?_ ?_ <;> intro hc) | (refine zs3 ?_ ?_ <;> intro hc)) | refine awp_split rfl (fun hb => ?_) (fun hb => ?_) | refine x_mret [0] ?_ ?_ | refine x_mnor [0] ?_ ?_ | refine zr ?_ | exact x_le)
    · rfl
    · exact .on (.ren rfl) .nil
  · rw [if_neg (by simp)]
    cases q22
    · rw [if_pos rfl]
      refine mfun tb_ok Tryz.func123 rfl Tryz.ntmps123 Tryz.results123 rfl rfl rfl rfl fun N pl => ?_
      repeat' (first | with_reducible refine rounds_on ?_ | with_reducible refine awp_rounds 4 ?_ | refine zt ?_ | (refine isR ?_; first | refine zo ?_ | refine zk c1 ?_ | refine zk c2 ?_ | refine zA ?_ | refine zc1 ?_ | refine zc3 ?_ | refine zI ?_ | (refine zs1 ?_ ?_ <;> intro hc) | (refine zs3 ?_ ?_ <;> intro hc)) | refine awp_split rfl (fun hb => ?_) (fun hb => ?_) | refine x_mret [0] ?_ ?_ | refine x_mnor [0] ?_ ?_ | refine zr ?_ | exact x_le)
      · rfl
      · exact .on (.ren rfl) .nil
    · rw [if_neg (by simp)]
      cases q33
      · rw [if_pos rfl]
        refine mfun tb_ok Tryz.func123 rfl Tryz.ntmps123 Tryz.results123 rfl rfl rfl rfl fun N pl => ?_
        repeat' (first | with_reducible refine rounds_on ?_ | with_reducible refine awp_rounds 4 ?_ | refine zt ?_ | (refine isR ?_; first | refine zo ?_ | refine zk c1 ?_ | refine zk c2 ?_ | refine zk c3 ?_ | refine zA ?_ | refine zc1 ?_ | refine zc3 ?_ | refine zI ?_ | (refine zs1 ?_ ?_ <;> intro hc) | (refine zs3 ?_ ?_ <;> intro hc)) | refine awp_split rfl (fun hb => ?_) (fun hb => ?_) | refine x_mret [0] ?_ ?_ | refine x_mnor [0] ?_ ?_ | refine zr ?_ | exact x_le)
        · rfl
        · exact .on (.ren rfl) .nil
      · rw [if_neg (by simp)]
        cases q42
        · rw [if_pos rfl]
          refine mfun tb_ok Tryz.func123 rfl Tryz.ntmps123 Tryz.results123 rfl rfl rfl rfl fun N pl => ?_
          repeat' (first | with_reducible refine rounds_on ?_ | with_reducible refine awp_rounds 4 ?_ | refine zt ?_ | (refine isR ?_; first | refine zo ?_ | refine zk c1 ?_ | refine zk c2 ?_ | refine zk c3 ?_ | refine zk c4 ?_ | refine zA ?_ | refine zc1 ?_ | refine zc3 ?_ | refine zI ?_ | (refine zs1 ?_ ?_ <;> intro hc) | (refine zs3 ?_ ?_ <;> intro hc)) | refine awp_split rfl (fun hb => ?_) (fun hb => ?_) | refine x_mret [0] ?_ ?_ | refine x_mnor [0] ?_ ?_ | refine zr ?_ | exact x_le)
          · rfl
          · exact .on (.ren rfl) .nil
        · rw [if_neg (by simp)]
          cases q53
          · rw [if_pos rfl]
            refine mfun tb_ok Tryz.func123 rfl Tryz.ntmps123 Tryz.results123 rfl rfl rfl rfl fun N pl => ?_
            repeat' (first | with_reducible refine rounds_on ?_ | with_reducible refine awp_rounds 4 ?_ | refine zt ?_ | (refine isR ?_; first | refine zo ?_ | refine zk c1 ?_ | refine zk c2 ?_ | refine zk c3 ?_ | refine zk c4 ?_ | refine zk c5 ?_ | refine zA ?_ | refine zc1 ?_ | refine zc3 ?_ | refine zI ?_ | (refine zs1 ?_ ?_ <;> intro hc) | (refine zs3 ?_ ?_ <;> intro hc)) | refine awp_split rfl (fun hb => ?_) (fun hb => ?_) | refine x_mret [0] ?_ ?_ | refine x_mnor [0] ?_ ?_ | refine zr ?_ | exact x_le)
            · rfl
            · exact .on (.ren rfl) .nil
          · rw [if_neg (by simp)]
            refine mfun tb_ok Tryz.func123 rfl Tryz.ntmps123 Tryz.results123 rfl rfl rfl rfl fun N pl => ?_
            repeat' (first | with_reducible refine rounds_on ?_ | with_reducible refine awp_rounds 4 ?_ | refine zt ?_ | (refine isR ?_; first | refine zo ?_ | refine zk c1 ?_ | refine zk c2 ?_ | refine zk c3 ?_ | refine zk c4 ?_ | refine zk c5 ?_ | refine zA ?_ | refine zc1 ?_ | refine zc3 ?_ | refine zI ?_ | (refine zs1 ?_ ?_ <;> intro hc) | (refine zs3 ?_ ?_ <;> intro hc)) | refine awp_split rfl (fun hb => ?_) (fun hb => ?_) | refine x_mret [0] ?_ ?_ | refine x_mnor [0] ?_ ?_ | refine zr ?_ | exact x_le)
            · rfl
            · exact .on (.ren rfl) .nil
end Go.Proofs.YtkgdkpiacencjaaGreatDoor.StampB
namespace Go.Proofs.YtkgdkpiacencjaaGreatDoor.StampC
open Go.RowKit Mem Abs TreeW WordP WordS HostP HostO HostA PathT StampP StampA StampB Lead

def monthsS : List UInt8 := ([106, 97, 110, 102, 101, 98, 109, 97, 114, 97, 112, 114, 109, 97, 121, 106, 117, 110, 106, 117, 108, 97, 117, 103, 115, 101, 112, 111, 99, 116, 110, 111, 118, 100, 101, 99] : List UInt8)
theorem month_index {t : List UInt8} (ht : t.length = 3) : (∃ i : Nat, i < 12 ∧ months.findIdx? (fun m => t == m) = some i ∧ Lib.index monthsS t = ((3 * i : Nat) : Int)) ∨ (months.findIdx? (fun m => t == m) = none ∧ (Lib.index monthsS t < 0 ∨ ∃ n : Nat, Lib.index monthsS t = (n : Int) ∧ n ≤ 36 ∧ n % 3 ≠ 0)) := by
  by_cases hm : t ∈ months
  · left
    simp only [months, List.mem_cons, List.not_mem_nil, or_false] at hm
    rcases hm with rfl | rfl | rfl | rfl | rfl | rfl | rfl | rfl | rfl | rfl | rfl | rfl
    · exact ⟨0, by decide, by decide +kernel, by decide +kernel⟩
    · exact ⟨1, by decide, by decide +kernel, by decide +kernel⟩
    · exact ⟨2, by decide, by decide +kernel, by decide +kernel⟩
    · exact ⟨3, by decide, by decide +kernel, by decide +kernel⟩
    · exact ⟨4, by decide, by decide +kernel, by decide +kernel⟩
    · exact ⟨5, by decide, by decide +kernel, by decide +kernel⟩
    · exact ⟨6, by decide, by decide +kernel, by decide +kernel⟩
    · exact ⟨7, by decide, by decide +kernel, by decide +kernel⟩
    · exact ⟨8, by decide, by decide +kernel, by decide +kernel⟩
    · exact ⟨9, by decide, by decide +kernel, by decide +kernel⟩
    · exact ⟨10, by decide, by decide +kernel, by decide +kernel⟩
    · exact ⟨11, by decide, by decide +kernel, by decide +kernel⟩
  · right
    refine ⟨List.findIdx?_eq_none_iff.2 fun m hmm => by simpa using fun (e : t = m) => hm (e ▸ hmm), ?_⟩
    rcases Lib.index_spec monthsS t with ⟨h, _⟩ | ⟨i, h1, h2, h3, _⟩
    · left; omega
    · right
      have hl : monthsS.length = 36 := rfl
      have hroom : i + 3 ≤ 36 := by
        rcases Lib.occAt_room h3 with h | h
        · omega
        · subst h; cases ht
      refine ⟨i, h1, by omega, fun h0 => hm ?_⟩
      rw [Lib.occAt_iff_take _ _ _ (by omega), ht, beq_iff_eq] at h3
      rw [← h3]
      rcases (show i = 0 ∨ i = 3 ∨ i = 6 ∨ i = 9 ∨ i = 12 ∨ i = 15 ∨ i = 18 ∨ i = 21 ∨ i = 24 ∨ i = 27 ∨ i = 30 ∨ i = 33 by omega) with rfl | rfl | rfl | rfl | rfl | rfl | rfl | rfl | rfl | rfl | rfl | rfl <;> decide
set_option maxRecDepth 100000 in
set_option maxHeartbeats 4000000 in
theorem month_v {g : Glob} (hg : HasMax g) {r : RD} {w : List UInt8} : MCallsG Tryz.prog g 125 [.loc 0 0 0, strT w] [rowR r] (.bool (decide (0 < monthF w))) [some (rowR { r with m := if 0 < monthF w then (monthF w : Nat) else r.m })] := by
  obtain ⟨r1, r2, r3, r4, r5, r6, r7, r8, r9, r10⟩ := r
  dsimp only
  by_cases h3 : w.length < 3
  · have e : monthF w = 0 := by unfold monthF; rw [if_pos h3]
    rw [e]
    refine mfunG tb_ok Tryz.func125 rfl Tryz.ntmps125 Tryz.results125 rfl rfl rfl rfl fun N pl => ?_
    repeat' (first | refine zt ?_ | (refine isR ?_; first | refine zo ?_ | refine zA ?_ | refine zL ?_ | refine zc1 ?_ | refine zc6 ?_ | refine zS ?_ | (refine zs1 ?_ ?_ <;> intro hc) | (refine zs6 ?_ ?_ <;> intro hc)) | refine awp_split rfl (fun hb => ?_) (fun hb => ?_) | refine x_mret [0] ?_ ?_ | refine x_mnor [0] ?_ ?_ | refine zr ?_ | exact x_le)
    · rfl
    · exact .on (.ren rfl) .nil
  · have c1 := fold_v (l := w.take 3)
    have c2 := index_v hg (l := monthsS) (m := fold (w.take 3)) (by decide)
    have hlen : (fold (w.take 3)).length = 3 := by rw [fold_len]; first | (simp; done) | (simp; omega)
    have he : monthF w = match months.findIdx? (fun m => fold (w.take 3) == m) with
        | some i => i + 1
        | none => 0 := by unfold monthF; rw [if_neg h3]; try rfl
    rcases month_index hlen with ⟨i, h1, h2, h4⟩ | ⟨h2, h4⟩
    · rw [h2] at he
      rw [h4] at c2
      dsimp only at he
      rw [he, decide_eq_true (Nat.succ_pos i), if_pos (Nat.succ_pos i)]
      generalize fold (w.take 3) = t at *
      have q1 : (((3 * i : Nat) : Int)).tmod 3 = 0 := by rw [Int.tmod_eq_emod_of_nonneg (by omega)]; omega
      have q2 : IntKind.i64.wrap ((((3 * i : Nat) : Int)).tdiv 3) = (i : Int) := by
        rw [show (((3 * i : Nat) : Int)).tdiv 3 = (i : Int) by rw [Int.tdiv_eq_ediv_of_nonneg (by omega)]; omega]
        exact wrap64 (by omega) (by omega)
      have q3 : InR .i64 0 := inR_zero _
      have q4 : ((i : Int) + 1) = ((i + 1 : Nat) : Int) := by omega
      have q5 : (0 : Int) ≤ ((3 * i : Nat) : Int) := by omega
      generalize hn : ((3 * i : Nat) : Int) = n at *
      refine mfunG tb_ok Tryz.func125 rfl Tryz.ntmps125 Tryz.results125 rfl rfl rfl rfl fun N pl => ?_
      repeat' (first | refine zt ?_ | (refine isR ?_; first | refine zo ?_ | refine zk c1 ?_ | refine zk c2 ?_ | refine x_rem ?_ | refine x_quo ?_ | refine zA ?_ | refine zL ?_ | refine zc1 ?_ | refine zc6 ?_ | refine zS ?_ | (refine zs1 ?_ ?_ <;> intro hc) | (refine zs6 ?_ ?_ <;> intro hc)) | refine awp_split rfl (fun hb => ?_) (fun hb => ?_) | refine x_mret [0] ?_ ?_ | refine x_mnor [0] ?_ ?_ | refine zr ?_ | exact x_le)
      · rfl
      · exact .on (.ren rfl) .nil
    · rw [h2] at he
      dsimp only at he
      rw [he]
      rcases h4 with h4 | ⟨n, h4, h5, h6⟩
      · generalize Lib.index monthsS (fold (w.take 3)) = k at *
        generalize fold (w.take 3) = t at *
        refine mfunG tb_ok Tryz.func125 rfl Tryz.ntmps125 Tryz.results125 rfl rfl rfl rfl fun N pl => ?_
        repeat' (first | refine zt ?_ | (refine isR ?_; first | refine zo ?_ | refine zk c1 ?_ | refine zk c2 ?_ | refine zA ?_ | refine zL ?_ | refine zc1 ?_ | refine zc6 ?_ | refine zS ?_ | (refine zs1 ?_ ?_ <;> intro hc) | (refine zs6 ?_ ?_ <;> intro hc)) | refine awp_split rfl (fun hb => ?_) (fun hb => ?_) | refine x_mret [0] ?_ ?_ | refine x_mnor [0] ?_ ?_ | refine zr ?_ | exact x_le)
        · rfl
        · exact .on (.ren rfl) .nil
      · rw [h4] at c2
        generalize fold (w.take 3) = t at *
        have q1 : ((n : Nat) : Int).tmod 3 = ((n % 3 : Nat) : Int) := by rw [Int.tmod_eq_emod_of_nonneg (by omega)]; omega
        have q3 : InR .i64 ((n % 3 : Nat) : Int) := ⟨by simp only [rng]; omega, by simp only [rng]; omega⟩
        have q4 : ¬ ((n % 3 : Nat) : Int) = 0 := by omega
        refine mfunG tb_ok Tryz.func125 rfl Tryz.ntmps125 Tryz.results125 rfl rfl rfl rfl fun N pl => ?_
        repeat' (first | refine zt ?_ | (refine isR ?_; first | refine zo ?_ | refine zk c1 ?_ | refine zk c2 ?_ | refine x_rem ?_ | refine zA ?_ | refine zL ?_ | refine zc1 ?_ | refine zc6 ?_ | refine zS ?_ | (refine zs1 ?_ ?_ <;> intro hc) | (refine zs6 ?_ ?_ <;> intro hc)) | refine awp_split rfl (fun hb => ?_) (fun hb => ?_) | refine x_mret [0] ?_ ?_ | refine x_mnor [0] ?_ ?_ | refine zr ?_ | exact x_le)
        · rfl
        · exact .on (.ren rfl) .nil
end Go.Proofs.YtkgdkpiacencjaaGreatDoor.StampC
namespace Go.Proofs.YtkgdkpiacencjaaGreatDoor.StampD
open Go.RowKit Mem Abs TreeW WordP WordS HostP HostO HostA PathT StampP StampA StampB StampC Lead

/-- What is left to try from the first, second, third and fourth thing on. -/
def T3 (r : RD) (w : List UInt8) : RD := if !r.f3 && (digF w 2 4).2.2 then { r with y := yearF (digF w 2 4).1, f3 := true } else r
def T2 (r : RD) (w : List UInt8) : RD := if !r.f2 && decide (0 < monthF w) then { r with m := (monthF w : Nat), f2 := true } else T3 r w
def T1 (r : RD) (w : List UInt8) : RD := if !r.f1 && (digF w 1 2).2.2 then { r with d := (digF w 1 2).1, f1 := true } else T2 r w
theorem take_eq (r : RD) (w : List UInt8) : takeF r w = if !r.f0 && (dayTimeF w r.h r.mi r.s).1 then { r with h := (dayTimeF w r.h r.mi r.s).2.1, mi := (dayTimeF w r.h r.mi r.s).2.2.1, s := (dayTimeF w r.h r.mi r.s).2.2.2, f0 := true } else T1 r w := rfl
def Tk (r : RD) (w : List UInt8) : Nat → RD
  | 0 => takeF r w
  | 1 => T1 r w
  | 2 => T2 r w
  | 3 => T3 r w
  | _ => r
abbrev timeA (r : RD) : Abs.V := .agg [.int .i64 r.y, .int .i64 r.m, .int .i64 r.d, .int .i64 r.h, .int .i64 r.mi, .int .i64 r.s]
abbrev bound (f : Nat) : Abs.V := .fn (.func f) [.loc 0 0 0] []
set_option maxRecDepth 100000 in
set_option maxHeartbeats 4000000 in
theorem take_v {g : Glob} (hg : HasMax g) {r : RD} {w : List UInt8} : MCallsG Tryz.prog g 102 [.loc 0 0 0, strT w] [rowR r] (.tup []) [some (rowR (takeF r w))] := by
  have c0 := ofDay_v (r := r) (w := w)
  have c1 := day_v (r := r) (w := w)
  have c2 := month_v hg (r := r) (w := w)
  have c3 := year_v (r := r) (w := w)
  have t0 : Tk r w 0 = takeF r w := rfl
  have t1 := take_eq r w
  have t2 : T1 r w = if !r.f1 && (digF w 1 2).2.2 then { r with d := (digF w 1 2).1, f1 := true } else T2 r w := rfl
  have t3 : T2 r w = if !r.f2 && decide (0 < monthF w) then { r with m := (monthF w : Nat), f2 := true } else T3 r w := rfl
  have t4 : T3 r w = if !r.f3 && (digF w 2 4).2.2 then { r with y := yearF (digF w 2 4).1, f3 := true } else r := rfl
  have u1 : Tk r w 1 = T1 r w := rfl
  have u2 : Tk r w 2 = T2 r w := rfl
  have u3 : Tk r w 3 = T3 r w := rfl
  have u4 : Tk r w 4 = r := rfl
  generalize takeF r w = z at *
  generalize T1 r w = z1 at *
  generalize T2 r w = z2 at *
  generalize T3 r w = z3 at *
  generalize Tk r w = tk at *
  generalize dayTimeF w r.h r.mi r.s = p0 at *
  generalize digF w 1 2 = p1 at *
  generalize monthF w = p2 at *
  generalize digF w 2 4 = p3 at *
  obtain ⟨r1, r2, r3, r4, r5, r6, r7, r8, r9, r10⟩ := r
  obtain ⟨p01, p02, p03, p04⟩ := p0
  obtain ⟨p11, p12, p13⟩ := p1
  obtain ⟨p31, p32, p33⟩ := p3
  dsimp only at *
  refine mfunG tb_ok Tryz.func102 rfl Tryz.ntmps102 Tryz.results102 rfl rfl rfl rfl fun N pl => ?_
  repeat' (first | refine zt ?_ | (refine isR ?_; first | refine zo ?_ | refine zA ?_ | refine zc1 ?_ | refine zI ?_ | (refine zs1 ?_ ?_ <;> intro hc)) | refine awp_split rfl (fun hb => ?_) (fun hb => ?_) | refine zr ?_ | exact x_le)
  refine awp_for (fun k => ⟨[(0, .loc 0 0 0), (1, strT w), (4, .loc 1 0 0), (19, .agg [bound 123, bound 124, bound 125, bound 126]), (20, .int .i64 (k : Int))], [(0, some (rowR ⟨r1, r2, r3, r4, r5, r6, r7, r8, r9, r10⟩)), (1, some (.els 106 6 [timeA ⟨r1, r2, r3, r4, r5, r6, r7, r8, r9, r10⟩]))], 2, 49⟩) (fun k => k ≤ 4 ∧ tk k = z) 4 0 (by exact x_le) ⟨by omega, t0⟩ ?_
  intro k ⟨hk, hq⟩
  rcases (show k = 0 ∨ k = 1 ∨ k = 2 ∨ k = 3 ∨ k = 4 by omega) with rfl | rfl | rfl | rfl | rfl
  · cases r7
    · cases p01
      · skip
        repeat' (first | refine zt ?_ | (refine isR ?_; first | refine zo ?_ | refine x_mv [0] [] (c0 _) ?_ | refine x_m0v [0] [] (c0 _) ?_ | refine x_mv [0] [] (c0) ?_ | refine x_m0v [0] [] (c0) ?_ | refine zA ?_ | refine zc1 ?_ | refine zI ?_ | (refine zs1 ?_ ?_ <;> intro hc)) | refine awp_split rfl (fun hb => ?_) (fun hb => ?_) | refine zr ?_ | exact x_le)
        refine ⟨⟨by omega, ?_⟩, by omega, ?_⟩
        · rw [u1, t1]; rfl
        · exact (by exact x_le)
      · skip
        repeat' (first | refine zt ?_ | (refine isR ?_; first | refine zo ?_ | refine x_mv [0] [] (c0 _) ?_ | refine x_m0v [0] [] (c0 _) ?_ | refine x_mv [0] [] (c0) ?_ | refine x_m0v [0] [] (c0) ?_ | refine zA ?_ | refine zc1 ?_ | refine zI ?_ | (refine zs1 ?_ ?_ <;> intro hc)) | refine awp_split rfl (fun hb => ?_) (fun hb => ?_) | refine x_mret [0] ?_ ?_ | refine x_mnor [0] ?_ ?_ | refine zr ?_ | exact x_le)
        · rfl
        · rw [t1]; exact .on (.ren rfl) .nil
    · skip
      repeat' (first | refine zt ?_ | (refine isR ?_; first | refine zo ?_ | refine zA ?_ | refine zc1 ?_ | refine zI ?_ | (refine zs1 ?_ ?_ <;> intro hc)) | refine awp_split rfl (fun hb => ?_) (fun hb => ?_) | refine zr ?_ | exact x_le)
      refine ⟨⟨by omega, ?_⟩, by omega, ?_⟩
      · rw [u1, t1]; rfl
      · exact (by exact x_le)
  · rw [u1] at hq
    cases r8
    · cases p13
      · skip
        repeat' (first | refine zt ?_ | (refine isR ?_; first | refine zo ?_ | refine x_mv [0] [] (c1 _) ?_ | refine x_m0v [0] [] (c1 _) ?_ | refine x_mv [0] [] (c1) ?_ | refine x_m0v [0] [] (c1) ?_ | refine zA ?_ | refine zc1 ?_ | refine zI ?_ | (refine zs1 ?_ ?_ <;> intro hc)) | refine awp_split rfl (fun hb => ?_) (fun hb => ?_) | refine zr ?_ | exact x_le)
        refine ⟨⟨by omega, ?_⟩, by omega, ?_⟩
        · rw [u2, ← hq, t2]; rfl
        · exact (by exact x_le)
      · skip
        repeat' (first | refine zt ?_ | (refine isR ?_; first | refine zo ?_ | refine x_mv [0] [] (c1 _) ?_ | refine x_m0v [0] [] (c1 _) ?_ | refine x_mv [0] [] (c1) ?_ | refine x_m0v [0] [] (c1) ?_ | refine zA ?_ | refine zc1 ?_ | refine zI ?_ | (refine zs1 ?_ ?_ <;> intro hc)) | refine awp_split rfl (fun hb => ?_) (fun hb => ?_) | refine x_mret [0] ?_ ?_ | refine x_mnor [0] ?_ ?_ | refine zr ?_ | exact x_le)
        · rfl
        · rw [← hq, t2]; exact .on (.ren rfl) .nil
    · skip
      repeat' (first | refine zt ?_ | (refine isR ?_; first | refine zo ?_ | refine zA ?_ | refine zc1 ?_ | refine zI ?_ | (refine zs1 ?_ ?_ <;> intro hc)) | refine awp_split rfl (fun hb => ?_) (fun hb => ?_) | refine zr ?_ | exact x_le)
      refine ⟨⟨by omega, ?_⟩, by omega, ?_⟩
      · rw [u2, ← hq, t2]; rfl
      · exact (by exact x_le)
  · rw [u2] at hq
    cases r9
    · by_cases h0 : 0 < p2
      · rw [decide_eq_true h0, if_pos h0] at c2
        rw [decide_eq_true h0] at t3
        repeat' (first | refine zt ?_ | (refine isR ?_; first | refine zo ?_ | refine x_mv [0] [] (c2 _) ?_ | refine x_m0v [0] [] (c2 _) ?_ | refine x_mv [0] [] (c2) ?_ | refine x_m0v [0] [] (c2) ?_ | refine zA ?_ | refine zc1 ?_ | refine zI ?_ | (refine zs1 ?_ ?_ <;> intro hc)) | refine awp_split rfl (fun hb => ?_) (fun hb => ?_) | refine x_mret [0] ?_ ?_ | refine x_mnor [0] ?_ ?_ | refine zr ?_ | exact x_le)
        · rfl
        · rw [← hq, t3]; exact .on (.ren rfl) .nil
      · rw [decide_eq_false h0, if_neg h0] at c2
        rw [decide_eq_false h0] at t3
        repeat' (first | refine zt ?_ | (refine isR ?_; first | refine zo ?_ | refine x_mv [0] [] (c2 _) ?_ | refine x_m0v [0] [] (c2 _) ?_ | refine x_mv [0] [] (c2) ?_ | refine x_m0v [0] [] (c2) ?_ | refine zA ?_ | refine zc1 ?_ | refine zI ?_ | (refine zs1 ?_ ?_ <;> intro hc)) | refine awp_split rfl (fun hb => ?_) (fun hb => ?_) | refine zr ?_ | exact x_le)
        refine ⟨⟨by omega, ?_⟩, by omega, ?_⟩
        · rw [u3, ← hq, t3]; rfl
        · exact (by exact x_le)
    · skip
      repeat' (first | refine zt ?_ | (refine isR ?_; first | refine zo ?_ | refine zA ?_ | refine zc1 ?_ | refine zI ?_ | (refine zs1 ?_ ?_ <;> intro hc)) | refine awp_split rfl (fun hb => ?_) (fun hb => ?_) | refine zr ?_ | exact x_le)
      refine ⟨⟨by omega, ?_⟩, by omega, ?_⟩
      · rw [u3, ← hq, t3]; rfl
      · exact (by exact x_le)
  · rw [u3] at hq
    cases r10
    · cases p33
      · skip
        repeat' (first | refine zt ?_ | (refine isR ?_; first | refine zo ?_ | refine x_mv [0] [] (c3 _) ?_ | refine x_m0v [0] [] (c3 _) ?_ | refine x_mv [0] [] (c3) ?_ | refine x_m0v [0] [] (c3) ?_ | refine zA ?_ | refine zc1 ?_ | refine zI ?_ | (refine zs1 ?_ ?_ <;> intro hc)) | refine awp_split rfl (fun hb => ?_) (fun hb => ?_) | refine zr ?_ | exact x_le)
        refine ⟨⟨by omega, ?_⟩, by omega, ?_⟩
        · rw [u4, ← hq, t4]; rfl
        · exact (by exact x_le)
      · skip
        repeat' (first | refine zt ?_ | (refine isR ?_; first | refine zo ?_ | refine x_mv [0] [] (c3 _) ?_ | refine x_m0v [0] [] (c3 _) ?_ | refine x_mv [0] [] (c3) ?_ | refine x_m0v [0] [] (c3) ?_ | refine zA ?_ | refine zc1 ?_ | refine zI ?_ | (refine zs1 ?_ ?_ <;> intro hc)) | refine awp_split rfl (fun hb => ?_) (fun hb => ?_) | refine x_mret [0] ?_ ?_ | refine x_mnor [0] ?_ ?_ | refine zr ?_ | exact x_le)
        · rfl
        · rw [← hq, t4]; exact .on (.ren rfl) .nil
    · skip
      repeat' (first | refine zt ?_ | (refine isR ?_; first | refine zo ?_ | refine zA ?_ | refine zc1 ?_ | refine zI ?_ | (refine zs1 ?_ ?_ <;> intro hc)) | refine awp_split rfl (fun hb => ?_) (fun hb => ?_) | refine zr ?_ | exact x_le)
      refine ⟨⟨by omega, ?_⟩, by omega, ?_⟩
      · rw [u4, ← hq, t4]; rfl
      · exact (by exact x_le)
  · rw [u4] at hq
    repeat' (first | refine zt ?_ | (refine isR ?_; first | refine zo ?_ | refine zA ?_ | refine zc1 ?_ | refine zI ?_ | (refine zs1 ?_ ?_ <;> intro hc)) | refine awp_split rfl (fun hb => ?_) (fun hb => ?_) | refine x_mret [0] ?_ ?_ | refine x_mnor [0] ?_ ?_ | refine zr ?_ | exact x_le)
    · rfl
    · rw [← hq]; exact .on (.ren rfl) .nil
end Go.Proofs.YtkgdkpiacencjaaGreatDoor.StampD
end

section
namespace Go.Proofs.YtkgdkpiacencjaaGreatDoor.Rune
open Abs
theorem get_str (l : List UInt8) (i : Nat) : (str l).get! i = l.getD i 0 := by
  show l.toArray[i]! = _
  rw [List.getElem!_toArray, List.getD_eq_getElem?_getD, List.getElem!_eq_getElem?_getD]
  rfl
theorem getD_some {l : List UInt8} {i : Nat} (h : i < l.length) : l[i]? = some (l.getD i 0) := by
  rw [List.getD_eq_getElem?_getD, List.getElem?_eq_getElem h]; rfl
theorem rune_at (l : List UInt8) (pos : Nat) (h : pos < l.length) : ∃ c wd, Utf8.decode (str l) pos = (c, wd) ∧ 1 ≤ wd ∧ pos + wd ≤ l.length ∧ c ≤ 1114111 ∧
    ((∃ b, l[pos]? = some b ∧ b.toNat < 128 ∧ c = b.toNat ∧ wd = 1) ∨ (128 ≤ c ∧ ∀ j, pos ≤ j → j < pos + wd → ∃ b, l[j]? = some b ∧ 128 ≤ b.toNat)) := by
  have hr := Lib.rune_le (str l) pos
  have hd := Lib.decode_at (str l) pos
  rw [get_str, get_str, get_str, get_str, str_size] at hd
  have h0 := getD_some h
  have hb := (l.getD pos 0).toNat_lt
  have hs := Lib.decodeN_shape (l.length - pos) (l.getD pos 0).toNat (l.getD (pos + 1) 0).toNat (l.getD (pos + 2) 0).toNat (l.getD (pos + 3) 0).toNat
  rcases hs with ⟨g1, g2⟩ | ⟨g1, g2, g3, g4, g5⟩ | ⟨g1, g2, g3, g4, g5, g6, g7⟩ | ⟨g1, g2, g3, g4, g5, g6, g7, g8⟩ | g1
  · rw [g2] at hd
    exact ⟨_, _, hd, by omega, by omega, by omega, .inl ⟨_, h0, g1, rfl, rfl⟩⟩
  · rw [g5] at hd
    refine ⟨_, _, hd, by omega, by omega, by rw [hd] at hr; exact hr, .inr ⟨g4, fun j h1 h2 => ?_⟩⟩
    refine ⟨_, getD_some (by omega), ?_⟩
    rcases (show j = pos ∨ j = pos + 1 by omega) with rfl | rfl <;> omega
  · rw [g7] at hd
    refine ⟨_, _, hd, by omega, by omega, by rw [hd] at hr; exact hr, .inr ⟨by omega, fun j h1 h2 => ?_⟩⟩
    refine ⟨_, getD_some (by omega), ?_⟩
    rcases (show j = pos ∨ j = pos + 1 ∨ j = pos + 2 by omega) with rfl | rfl | rfl <;> omega
  · rw [g8] at hd
    refine ⟨_, _, hd, by omega, by omega, by rw [hd] at hr; exact hr, .inr ⟨by omega, fun j h1 h2 => ?_⟩⟩
    refine ⟨_, getD_some (by omega), ?_⟩
    rcases (show j = pos ∨ j = pos + 1 ∨ j = pos + 2 ∨ j = pos + 3 by omega) with rfl | rfl | rfl | rfl <;> omega
  · rw [g1] at hd
    by_cases h1 : (l.getD pos 0).toNat < 128
    · exfalso
      have : Lib.decodeN (l.length - pos) (l.getD pos 0).toNat (l.getD (pos + 1) 0).toNat (l.getD (pos + 2) 0).toNat (l.getD (pos + 3) 0).toNat = ((l.getD pos 0).toNat, 1) := by unfold Lib.decodeN; rw [if_pos h1]
      rw [g1] at this
      have := congrArg Prod.fst this
      dsimp only at this; omega
    · refine ⟨_, _, hd, by omega, by omega, by omega, .inr ⟨by omega, fun j h2 h3 => ?_⟩⟩
      obtain rfl : j = pos := by omega
      exact ⟨_, h0, by omega⟩
end Go.Proofs.YtkgdkpiacencjaaGreatDoor.Rune
end

section
namespace Go.Proofs.YtkgdkpiacencjaaGreatDoor.ClockW
open Go.RowKit ClockP

theorem tmod_zero (y k : Int) : (y.tmod k == 0) = (y % k == 0) := by
  rw [Bool.eq_iff_iff, beq_iff_eq, beq_iff_eq]
  rw [← Int.dvd_iff_tmod_eq_zero, ← Int.dvd_iff_emod_eq_zero]

theorem ret_int {k : IntKind} {a b : Int} (h : a = b) : Ending.returned (.int k a) = .returned (.int k b) := by rw [h]
theorem ret_two {k j : IntKind} {a b c d : Int} (h : a = b) (h2 : c = d) : Ending.returned (.tuple #[.int k a, .int j c]) = .returned (.tuple #[.int k b, .int j d]) := by rw [h, h2]

def leapT (y : Int) : Bool := (y.tmod 4 == 0 && y.tmod 100 != 0) || y.tmod 400 == 0
theorem leapT_eq (y : Int) : leapT y = lp y := by unfold leapT lp bne; rw [tmod_zero, tmod_zero, tmod_zero]

set_option maxHeartbeats 400000 in
theorem leap_any (y : Int) (w : World) :
    Calls Tryz.prog 158 #[.int .i64 y] w fun e w' => e = .returned (.bool (leapT y)) ∧ w = w' := by
  unfold leapT
  cases h4 : (y.tmod 4 == 0) <;> cases h1 : (y.tmod 100 != 0) <;> cases h0 : (y.tmod 400 == 0)
  all_goals
    go_enter Tryz.func158, Tryz.ntmps158
    go_wp2
    go_ret
    exact ⟨rfl, rfl⟩

theorem mlen_29 {y m : Int} (h : (m == 2) = true) (h2 : leapT y = true) : 29 = mlen y m := by
  rw [leapT_eq] at h2; obtain rfl : m = 2 := by simpa using h
  simp [mlen, lpn, h2]
theorem mlen_28 {y m : Int} (h : (m == 2) = true) (h2 : leapT y = false) : 28 = mlen y m := by
  rw [leapT_eq] at h2; obtain rfl : m = 2 := by simpa using h
  simp [mlen, lpn, h2]
theorem mlen_30 {y m : Int} (h : m = 4 ∨ m = 6 ∨ m = 9 ∨ m = 11) : mlen y m = 30 := by rw [mlen, if_neg (by omega), if_pos h]
theorem mlen_31 {y m : Int} (h : m = 1 ∨ m = 3 ∨ m = 5 ∨ m = 7 ∨ m = 8 ∨ m = 10 ∨ m = 12) : mlen y m = 31 := by rw [mlen, if_neg (by omega), if_neg (by omega), if_pos h]
theorem mlen_0 {y m : Int} (h : m < 1 ∨ 12 < m ∨ (m ≠ 1 ∧ m ≠ 2 ∧ m ≠ 3 ∧ m ≠ 4 ∧ m ≠ 5 ∧ m ≠ 6 ∧ m ≠ 7 ∧ m ≠ 8 ∧ m ≠ 9 ∧ m ≠ 10 ∧ m ≠ 11 ∧ m ≠ 12)) : mlen y m = 0 := mlen_none y m (by omega)

set_option maxHeartbeats 400000 in
theorem length_any (y m : Int) (w : World) :
    Calls Tryz.prog 127 #[.int .i64 y, .int .i64 m] w fun e w' => e = .returned (.int .i64 (mlen y m)) ∧ w = w' := by
  go_enter Tryz.func127, Tryz.ntmps127
  go_wp2_with (go_at_call 158; refine (leap_any _ _).mono ?_; rintro e w' ⟨rfl, rfl⟩)
  all_goals
    go_ret
    refine ⟨ret_int ?_, rfl⟩
    go_light
    first | exact mlen_29 ‹_› ‹_› | exact mlen_28 ‹_› ‹_› | (simp only [beq_iff_eq, beq_eq_false_iff_ne, ne_eq] at *; exact (mlen_30 (by omega)).symm) | (simp only [beq_iff_eq, beq_eq_false_iff_ne, ne_eq] at *; exact (mlen_31 (by omega)).symm) | (simp only [beq_eq_false_iff_ne, ne_eq] at *; exact (mlen_0 (by omega)).symm)

set_option maxHeartbeats 400000 in
theorem daysTo_any (y : Int) (w : World) (h : 1 ≤ y) (h2 : y ≤ 20000) :
    Calls Tryz.prog 128 #[.int .i64 y] w fun e w' => e = .returned (.int .i64 (dby y)) ∧ w = w' := by
  go_enter Tryz.func128, Tryz.ntmps128
  go_wp2
  go_ret
  exact ⟨rfl, rfl⟩

def isB (n : Int) : Bool := decide (-11644473600 ≤ n) && decide (n ≤ 253402300799)
set_option maxHeartbeats 400000 in
theorem is_any (n : Int) (w : World) :
    Calls Tryz.prog 49 #[.int .i64 n] w fun e w' => e = .returned (.bool (isB n)) ∧ w = w' := by
  unfold isB
  by_cases h1 : -11644473600 ≤ n <;> by_cases h2 : n ≤ 253402300799
  all_goals
    go_enter Tryz.func49, Tryz.ntmps49
    go_wp2
    go_ret
    exact ⟨by simp [h1, h2], rfl⟩

def afterF (n s : Int) : Int := if s < 0 then (if s < -11644473600 - n then -11644473600 else n + s) else if 253402300799 - n < s then 253402300799 else n + s
set_option maxHeartbeats 400000 in
theorem after_any (n s : Int) (w : World) (h1 : -11644473600 ≤ n) (h2 : n ≤ 253402300799) (s1 : -9223372036854775808 ≤ s) (s2 : s ≤ 9223372036854775807) :
    Calls Tryz.prog 71 #[.int .i64 n, .int .i64 s] w fun e w' => e = .returned (.int .i64 (afterF n s)) ∧ w = w' := by
  go_enter Tryz.func71, Tryz.ntmps71
  go_wp2
  all_goals
    go_ret
    refine ⟨ret_int (b := afterF n s) ?_, rfl⟩
    go_light
    show _ = afterF n s
    unfold afterF
    omega

end Go.Proofs.YtkgdkpiacencjaaGreatDoor.ClockW
end

section
namespace Go.Proofs.YtkgdkpiacencjaaGreatDoor.ClockO
open Go.RowKit ClockP ClockW

theorem bcell {B : Nat} {W w1 : World} (hb : Below B W w1) : (∀ b o, b < B → w1.cell? ⟨b, o, none⟩ = W.cell? ⟨b, o, none⟩) ∧ (∀ b o, b < B → w1.frozen? ⟨b, o, none⟩ = W.frozen? ⟨b, o, none⟩) :=
  ⟨fun b o h => hb.cell (p := ⟨b, o, none⟩) h, fun b o h => hb.frozen (p := ⟨b, o, none⟩) h⟩

/-- What clock.Of answers. -/
def OfAns (y m d h mi s : Int) (v : Value) : Prop := (right y m d h mi s ∧ v = .tuple #[.int .i64 (mom y m d h mi s), .int .i64 0]) ∨ (¬ right y m d h mi s ∧ v = .tuple #[.int .i64 0, .int .i64 3])
def OfPost (y m d h mi s : Int) (w : World) (e : Ending) (w' : World) : Prop := ∃ v, e = .returned v ∧ OfAns y m d h mi s v ∧ Below w.heap.size w w'
/-- The first k of the five bounds hold. -/
def Good (y m d h mi s : Int) (k : Nat) : Prop := (0 < k → 1601 ≤ y ∧ y ≤ 9999) ∧ (1 < k → 1 ≤ d ∧ d ≤ mlen y m) ∧ (2 < k → 0 ≤ h ∧ h ≤ 23) ∧ (3 < k → 0 ≤ mi ∧ mi ≤ 59) ∧ (4 < k → 0 ≤ s ∧ s ≤ 59)
theorem good_right {y m d h mi s : Int} (g : Good y m d h mi s 5) : right y m d h mi s := by
  obtain ⟨a, b, c, e, f⟩ := g
  have := a (by omega); have := b (by omega); have := c (by omega); have := e (by omega); have := f (by omega)
  exact ⟨⟨by omega, by omega, by omega, by omega⟩, by omega, by omega, by omega, by omega, by omega, by omega⟩
theorem no_ans {y m d h mi s : Int} {w w' : World} (g : ¬ right y m d h mi s) (hb : Below w.heap.size w w') : OfPost y m d h mi s w (.returned (.tuple #[.int .i64 0, .int .i64 3])) w' := ⟨_, rfl, .inr ⟨g, rfl⟩, hb⟩

theorem good_next0 {y m d h mi s : Int} (g : Good y m d h mi s 0) (h2 : 1601 ≤ y ∧ y ≤ 9999) : Good y m d h mi s 1 := by
  obtain ⟨a, b, c, e, f⟩ := g
  exact ⟨fun _ => h2, fun h => by omega, fun h => by omega, fun h => by omega, fun h => by omega⟩
theorem bad0 {y m d h mi s : Int} (h2 : ¬ (1601 ≤ y ∧ y ≤ 9999)) : ¬ right y m d h mi s := fun hr => h2 ⟨hr.1.1, hr.1.2.1⟩
theorem good_next1 {y m d h mi s : Int} (g : Good y m d h mi s 1) (h2 : 1 ≤ d ∧ d ≤ mlen y m) : Good y m d h mi s 2 := by
  obtain ⟨a, b, c, e, f⟩ := g
  exact ⟨fun _ => a (by omega), fun _ => h2, fun h => by omega, fun h => by omega, fun h => by omega⟩
theorem bad1 {y m d h mi s : Int} (h2 : ¬ (1 ≤ d ∧ d ≤ mlen y m)) : ¬ right y m d h mi s := fun hr => h2 ⟨hr.1.2.2.1, hr.1.2.2.2⟩
theorem good_next2 {y m d h mi s : Int} (g : Good y m d h mi s 2) (h2 : 0 ≤ h ∧ h ≤ 23) : Good y m d h mi s 3 := by
  obtain ⟨a, b, c, e, f⟩ := g
  exact ⟨fun _ => a (by omega), fun _ => b (by omega), fun _ => h2, fun h => by omega, fun h => by omega⟩
theorem bad2 {y m d h mi s : Int} (h2 : ¬ (0 ≤ h ∧ h ≤ 23)) : ¬ right y m d h mi s := fun hr => h2 ⟨hr.2.1, hr.2.2.1⟩
theorem good_next3 {y m d h mi s : Int} (g : Good y m d h mi s 3) (h2 : 0 ≤ mi ∧ mi ≤ 59) : Good y m d h mi s 4 := by
  obtain ⟨a, b, c, e, f⟩ := g
  exact ⟨fun _ => a (by omega), fun _ => b (by omega), fun _ => c (by omega), fun _ => h2, fun h => by omega⟩
theorem bad3 {y m d h mi s : Int} (h2 : ¬ (0 ≤ mi ∧ mi ≤ 59)) : ¬ right y m d h mi s := fun hr => h2 ⟨hr.2.2.2.1, hr.2.2.2.2.1⟩
theorem good_next4 {y m d h mi s : Int} (g : Good y m d h mi s 4) (h2 : 0 ≤ s ∧ s ≤ 59) : Good y m d h mi s 5 := by
  obtain ⟨a, b, c, e, f⟩ := g
  exact ⟨fun _ => a (by omega), fun _ => b (by omega), fun _ => c (by omega), fun _ => e (by omega), fun _ => h2⟩
theorem bad4 {y m d h mi s : Int} (h2 : ¬ (0 ≤ s ∧ s ≤ 59)) : ¬ right y m d h mi s := fun hr => h2 ⟨hr.2.2.2.2.2.1, hr.2.2.2.2.2.2⟩
theorem below_up {w wr : World} {o : Obj} (hb : Below (w.heap.size + 1) (w.alloc o) wr) : Below w.heap.size w wr := ((Below.refl _ _).alloc (Nat.le_refl _) _).trans (hb.mono (by omega))
theorem num_1 (y d : Int) : num y 1 d = dby y + d - 1 := by unfold num; rw [cum_1 y 1 (by omega)]; omega
theorem num_succ (y k d : Int) (h : 1 ≤ k) (h2 : k ≤ 12) : num y (k + 1) d = num y k d + mlen y k := by unfold num; rw [cum_succ y k h h2]; omega
/-- The sizes of what is reckoned. -/
theorem num_in {y m d h mi s : Int} (hr : right y m d h mi s) : 1 ≤ y ∧ y ≤ 20000 ∧ 1 ≤ m ∧ m ≤ 12 ∧ -134774 ≤ dby y ∧ dby y ≤ 2932897 := by
  have hm := vld_m hr.1
  have a := dby_mono 1601 y hr.1.1
  have b := dby_mono y 10000 (by have := hr.1.2.1; omega)
  rw [dby_first] at a; rw [dby_last] at b
  have := hr.1.1; have := hr.1.2.1
  omega

set_option maxHeartbeats 2000000 in
theorem of_any (y m d h mi s : Int) (w : World) :
    Calls Tryz.prog 103 #[.agg #[.int .i64 y, .int .i64 m, .int .i64 d, .int .i64 h, .int .i64 mi, .int .i64 s]] w (OfPost y m d h mi s w) := by
  have ix0 : ∀ (x0 x1 x2 x3 x4 x5 x6 x7 x8 x9 x10 x11 x12 x13 x14 : Value) (W : World), (Instr.index 131 (.agg #[x0, x1, x2, x3, x4, x5, x6, x7, x8, x9, x10, x11, x12, x13, x14]) (.int .i64 0)).run Tryz.prog W = .ok (.agg #[x0, x1, x2]) W := fun _ _ _ _ _ _ _ _ _ _ _ _ _ _ _ _ => by kernel_rfl
  have ix1 : ∀ (x0 x1 x2 x3 x4 x5 x6 x7 x8 x9 x10 x11 x12 x13 x14 : Value) (W : World), (Instr.index 131 (.agg #[x0, x1, x2, x3, x4, x5, x6, x7, x8, x9, x10, x11, x12, x13, x14]) (.int .i64 1)).run Tryz.prog W = .ok (.agg #[x3, x4, x5]) W := fun _ _ _ _ _ _ _ _ _ _ _ _ _ _ _ _ => by kernel_rfl
  have ix2 : ∀ (x0 x1 x2 x3 x4 x5 x6 x7 x8 x9 x10 x11 x12 x13 x14 : Value) (W : World), (Instr.index 131 (.agg #[x0, x1, x2, x3, x4, x5, x6, x7, x8, x9, x10, x11, x12, x13, x14]) (.int .i64 2)).run Tryz.prog W = .ok (.agg #[x6, x7, x8]) W := fun _ _ _ _ _ _ _ _ _ _ _ _ _ _ _ _ => by kernel_rfl
  have ix3 : ∀ (x0 x1 x2 x3 x4 x5 x6 x7 x8 x9 x10 x11 x12 x13 x14 : Value) (W : World), (Instr.index 131 (.agg #[x0, x1, x2, x3, x4, x5, x6, x7, x8, x9, x10, x11, x12, x13, x14]) (.int .i64 3)).run Tryz.prog W = .ok (.agg #[x9, x10, x11]) W := fun _ _ _ _ _ _ _ _ _ _ _ _ _ _ _ _ => by kernel_rfl
  have ix4 : ∀ (x0 x1 x2 x3 x4 x5 x6 x7 x8 x9 x10 x11 x12 x13 x14 : Value) (W : World), (Instr.index 131 (.agg #[x0, x1, x2, x3, x4, x5, x6, x7, x8, x9, x10, x11, x12, x13, x14]) (.int .i64 4)).run Tryz.prog W = .ok (.agg #[x12, x13, x14]) W := fun _ _ _ _ _ _ _ _ _ _ _ _ _ _ _ _ => by kernel_rfl
  go_enter Tryz.func103, Tryz.ntmps103
  go_wp2_with fail
  go_quiet ((go_at_call 127; exact Calls.quiet_of_same ((length_any _ _ _).mono (fun _ _ ⟨a, b⟩ => ⟨a, b.symm⟩))))
  go_wp2_with fail
  go_loopw [29] (fun i wr => ∃ k : Nat, k ≤ 5 ∧ i = .int .i64 k ∧ Good y m d h mi s k ∧ Below (w.heap.size + 1) (w.alloc (.cells #[.int .i64 y, .int .i64 m, .int .i64 d, .int .i64 h, .int .i64 mi, .int .i64 s] 106)) wr) (fun i _ => 5 - (intOf i).toNat)
  case atStart => exact ⟨0, by omega, rfl, ⟨by omega, by omega, by omega, by omega, by omega⟩, ⟨rfl, rfl, rfl, by simp, fun _ _ => rfl⟩⟩
  case round =>
    obtain ⟨k, hk, rfl, hg, hb⟩ := hrel
    obtain ⟨hc, hf⟩ := bcell hb
    have hsz : w.heap.size + 1 ≤ wr.heap.size := by have := hb.size; simpa using this
    have G := Lib.hid hg
    have hcase : k = 0 ∨ k = 1 ∨ k = 2 ∨ k = 3 ∨ k = 4 ∨ k = 5 := by omega
    clear hg hk
    rcases hcase with rfl | rfl | rfl | rfl | rfl | rfl
    · by_cases hgood : 1601 ≤ y ∧ y ≤ 9999
      · have hg1 : Good y m d h mi s 1 := good_next0 G.out hgood
        have G1 := Lib.hid hg1; clear hg1
        obtain ⟨hgl, hgr⟩ := hgood
        go_wp2_with fail
        go_roundw
        case rel => exact ⟨1, by omega, rfl, G1.out, hb.alloc hsz _⟩
        case measure => simp [intOf]
      · have hno : ¬ right y m d h mi s := bad0 hgood
        have NO := Lib.hid hno; clear hno
        by_cases hlo : 1601 ≤ y
        all_goals
          go_wp2_with fail
          go_ret2
          exact no_ans NO.out (below_up (hb.alloc hsz _))
    · by_cases hgood : 1 ≤ d ∧ d ≤ mlen y m
      · have hg1 : Good y m d h mi s 2 := good_next1 G.out hgood
        have G1 := Lib.hid hg1; clear hg1
        obtain ⟨hgl, hgr⟩ := hgood
        go_wp2_with fail
        go_roundw
        case rel => exact ⟨2, by omega, rfl, G1.out, hb.alloc hsz _⟩
        case measure => simp [intOf]
      · have hno : ¬ right y m d h mi s := bad1 hgood
        have NO := Lib.hid hno; clear hno
        by_cases hlo : 1 ≤ d
        all_goals
          go_wp2_with fail
          go_ret2
          exact no_ans NO.out (below_up (hb.alloc hsz _))
    · by_cases hgood : 0 ≤ h ∧ h ≤ 23
      · have hg1 : Good y m d h mi s 3 := good_next2 G.out hgood
        have G1 := Lib.hid hg1; clear hg1
        obtain ⟨hgl, hgr⟩ := hgood
        go_wp2_with fail
        go_roundw
        case rel => exact ⟨3, by omega, rfl, G1.out, hb.alloc hsz _⟩
        case measure => simp [intOf]
      · have hno : ¬ right y m d h mi s := bad2 hgood
        have NO := Lib.hid hno; clear hno
        by_cases hlo : 0 ≤ h
        all_goals
          go_wp2_with fail
          go_ret2
          exact no_ans NO.out (below_up (hb.alloc hsz _))
    · by_cases hgood : 0 ≤ mi ∧ mi ≤ 59
      · have hg1 : Good y m d h mi s 4 := good_next3 G.out hgood
        have G1 := Lib.hid hg1; clear hg1
        obtain ⟨hgl, hgr⟩ := hgood
        go_wp2_with fail
        go_roundw
        case rel => exact ⟨4, by omega, rfl, G1.out, hb.alloc hsz _⟩
        case measure => simp [intOf]
      · have hno : ¬ right y m d h mi s := bad3 hgood
        have NO := Lib.hid hno; clear hno
        by_cases hlo : 0 ≤ mi
        all_goals
          go_wp2_with fail
          go_ret2
          exact no_ans NO.out (below_up (hb.alloc hsz _))
    · by_cases hgood : 0 ≤ s ∧ s ≤ 59
      · have hg1 : Good y m d h mi s 5 := good_next4 G.out hgood
        have G1 := Lib.hid hg1; clear hg1
        obtain ⟨hgl, hgr⟩ := hgood
        go_wp2_with fail
        go_roundw
        case rel => exact ⟨5, by omega, rfl, G1.out, hb.alloc hsz _⟩
        case measure => simp [intOf]
      · have hno : ¬ right y m d h mi s := bad4 hgood
        have NO := Lib.hid hno; clear hno
        by_cases hlo : 0 ≤ s
        all_goals
          go_wp2_with fail
          go_ret2
          exact no_ans NO.out (below_up (hb.alloc hsz _))
    · have hr := good_right G.out
      obtain ⟨e1, e2, e3, e4, e5, e6⟩ := num_in hr
      have e7 : 1 ≤ d ∧ d ≤ 31 := by have := mlen_bd y m; have := hr.1.2.2; omega
      have e8 : 0 ≤ h ∧ h ≤ 23 ∧ 0 ≤ mi ∧ mi ≤ 59 ∧ 0 ≤ s ∧ s ≤ 59 := by obtain ⟨_, h⟩ := hr; omega
      have HR := Lib.hid hr; clear hr
      obtain ⟨wo, rfl⟩ : ∃ wo : World, wo = wr := ⟨_, rfl⟩
      go_wp2_with fail
      go_quiet ((go_at_call 128; exact Calls.quiet_of_same ((daysTo_any _ _ e1 e2).mono (fun _ _ ⟨a, b⟩ => ⟨a, b.symm⟩))))
      go_wp2_with fail
      go_loopw [6, 7] (fun t i wr => ∃ k : Int, 1 ≤ k ∧ k ≤ m ∧ i = .int .i64 k ∧ t = .int .i64 (num y k d) ∧ Below (w.heap.size + 1) (w.alloc (.cells #[.int .i64 y, .int .i64 m, .int .i64 d, .int .i64 h, .int .i64 mi, .int .i64 s] 106)) wr) (fun _ i _ => (m - intOf i).toNat)
      case atStart => exact ⟨1, by omega, by omega, rfl, by rw [num_1], ⟨hb.os, hb.tape, hb.output, hb.size, hb.block⟩⟩
      case round =>
        obtain ⟨k, hk1, hk2, rfl, rfl, hb2⟩ := hrel
        obtain ⟨hc2, hf2⟩ := bcell hb2
        have hsz2 : w.heap.size + 1 ≤ wr.heap.size := by have := hb2.size; simpa using this
        have n1 : -134774 ≤ num y k d ∧ num y k d ≤ 2934000 := by have := cum_bd y k (by omega); unfold num; omega
        have n2 := num_succ y k d hk1 (by omega)
        have n3 := mlen_bd y k
        have N2 := Lib.hid n2; clear n2
        clear hc hf
        by_cases hlt : k < m
        · go_wp2_with (go_at_call 127; refine (length_any _ _ _).mono ?_; rintro e w' ⟨rfl, rfl⟩)
          go_roundw
          case rel =>
            repeat apply Exists.intro
            exact ⟨⟨k + 1, by omega, by omega, rfl, by rw [N2.out], hb2⟩, rfl⟩
          case measure => simp [intOf]; omega
        · obtain rfl : k = m := by omega
          go_wp2_with fail
          go_ret2
          exact ⟨_, rfl, .inl ⟨HR.out, rfl⟩, below_up hb2⟩

def NmB (n : Int) : Bool := !isB n
set_option maxHeartbeats 400000 in
theorem noMoment_any (n : Int) (w : World) :
    Calls Tryz.prog 52 #[.int .i64 n] w fun e w' => e = .returned (.bool (NmB n)) ∧ w = w' := by
  unfold NmB isB
  by_cases h1 : -11644473600 ≤ n <;> by_cases h2 : n ≤ 253402300799
  all_goals
    go_enter Tryz.func52, Tryz.ntmps52
    go_wp2
    go_ret
    exact ⟨by simp [h1, h2], rfl⟩
set_option maxHeartbeats 400000 in
theorem addOf_yes (n s : Int) (w : World) (h : NmB n = false) (s1 : -9223372036854775808 ≤ s) (s2 : s ≤ 9223372036854775807) :
    Calls Tryz.prog 77 #[.int .i64 n, .int .i64 s] w fun e w' => e = .returned (.tuple #[.int .i64 (afterF n s), .int .i64 0]) ∧ w = w' := by
  have hb : -11644473600 ≤ n ∧ n ≤ 253402300799 := by unfold NmB isB at h; simpa using h
  obtain ⟨h1, h2⟩ := hb
  go_enter Tryz.func77, Tryz.ntmps77
  go_wp2_with (go_at_call 52; refine (noMoment_any _ _).mono ?_; rintro e w' ⟨rfl, rfl⟩)
  all_goals
    go_ret2
    exact ⟨ret_two (by show _ = afterF n s; go_light; unfold afterF; omega) rfl, rfl⟩
end Go.Proofs.YtkgdkpiacencjaaGreatDoor.ClockO
end

section
namespace Go.Proofs.YtkgdkpiacencjaaGreatDoor.ClockR
open Go.RowKit ClockP ClockW ClockO

set_option maxHeartbeats 400000 in
theorem isLeap_any (y : Int) (w : World) :
    Calls Tryz.prog 161 #[.int .i64 y] w fun e w' => e = .returned (.bool (leapT y)) ∧ w = w' := by
  unfold leapT
  cases h4 : (y.tmod 4 == 0) <;> cases h1 : (y.tmod 100 != 0) <;> cases h0 : (y.tmod 400 == 0)
  all_goals
    go_enter Tryz.func161, Tryz.ntmps161
    go_wp2
    go_ret
    exact ⟨rfl, rfl⟩

def MdPost (y m : Int) (w : World) (e : Ending) (w' : World) : Prop := e = .returned (.int .i64 (mlen y m)) ∧ Below w.heap.size w w'
set_option maxHeartbeats 1000000 in
theorem monthDays_any (y m : Int) (w : World) :
    Calls Tryz.prog 134 #[.int .i64 y, .int .i64 m] w (MdPost y m w) := by
  by_cases h1 : m < 1
  · have hm := mlen_none y m (.inl h1)
    have H := Lib.hid hm; clear hm
    go_enter Tryz.func134, Tryz.ntmps134
    go_wp2_with fail
    go_ret
    exact ⟨ret_int H.out.symm, Below.refl _ _⟩
  · by_cases h2 : 12 < m
    · have hm := mlen_none y m (.inr h2)
      have H := Lib.hid hm; clear hm
      go_enter Tryz.func134, Tryz.ntmps134
      go_wp2_with fail
      go_ret
      exact ⟨ret_int H.out.symm, Below.refl _ _⟩
    · have hc : m = 1 ∨ m = 2 ∨ m = 3 ∨ m = 4 ∨ m = 5 ∨ m = 6 ∨ m = 7 ∨ m = 8 ∨ m = 9 ∨ m = 10 ∨ m = 11 ∨ m = 12 := by omega
      clear h1 h2
      rcases hc with rfl | rfl | rfl | rfl | rfl | rfl | rfl | rfl | rfl | rfl | rfl | rfl
      all_goals
        go_enter Tryz.func134, Tryz.ntmps134
        go_wp2_with (go_at_call 161; refine (isLeap_any _ _).mono ?_; rintro e w' ⟨rfl, rfl⟩)
        all_goals
          go_ret
          refine ⟨ret_int ?_, by first | exact Below.refl _ _ | exact (Below.refl _ _).alloc (Nat.le_refl _) _⟩
          first | exact mlen_29 rfl ‹_› | exact mlen_28 rfl ‹_› | (simp [mlen]; done)

set_option maxHeartbeats 1000000 in
theorem dayNo_any (y m d : Int) (w : World) (hr : vld y m d) :
    Calls Tryz.prog 135 #[.int .i64 y, .int .i64 m, .int .i64 d] w fun e w' => e = .returned (.int .i64 (num y m d)) ∧ w = w' := by
  obtain ⟨hm1, hm2⟩ := vld_m hr
  obtain ⟨hy1, hy2, hd1, hd2⟩ := hr
  have hd3 := (mlen_bd y m).2
  have H := Lib.hid (dayNo_num y m d hm1 hm2)
  by_cases h3 : m - 3 < 0
  all_goals
    go_enter Tryz.func135, Tryz.ntmps135
    go_wp2_with fail
    go_ret
    refine ⟨ret_int ?_, rfl⟩
    rw [← H.out]
    show _ = dayNo y m d
    go_light
    first | (simp only [dayNo, if_pos h3] <;> omega) | (simp only [dayNo, if_neg h3] <;> omega)

end Go.Proofs.YtkgdkpiacencjaaGreatDoor.ClockR
end

section
namespace Go.Proofs.YtkgdkpiacencjaaGreatDoor.ClockT
open Go.RowKit ClockP ClockW ClockO

def TPost (v : Value) (w : World) (e : Ending) (w' : World) : Prop := e = .returned v ∧ Below w.heap.size w w'
def refT (n : Int) : Value := .tuple #[.agg #[.int .i64 (refY n), .int .i64 (refM n), .int .i64 (dOf (inOf n)), .int .i64 ((n + 11644473600) % 86400 / 3600), .int .i64 ((n + 11644473600) % 86400 % 3600 / 60), .int .i64 ((n + 11644473600) % 86400 % 60)], .int .i64 0]
def noT : Value := .tuple #[.agg #[.int .i64 0, .int .i64 0, .int .i64 0, .int .i64 0, .int .i64 0, .int .i64 0], .int .i64 3]

end Go.Proofs.YtkgdkpiacencjaaGreatDoor.ClockT
end

section
namespace Go.Proofs.YtkgdkpiacencjaaGreatDoor.ClockI
open Go.RowKit ClockP ClockW ClockO ClockT

def W1 (w : World) (y m : Int) : World := w.alloc (.cells #[.int .i64 y, .int .i64 m, .int .i64 0, .int .i64 0, .int .i64 0, .int .i64 0] 106)

/-! What is in any case. -/
end Go.Proofs.YtkgdkpiacencjaaGreatDoor.ClockI
end
