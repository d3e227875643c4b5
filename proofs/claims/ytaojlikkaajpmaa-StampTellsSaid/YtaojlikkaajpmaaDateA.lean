/- Dates: what the document says, plain. -/
import Derived.Test.YtaojlikkaajpmaaWk
import Derived.Test.YtaojlikkaajpmaaHostO
import Derived.Test.YtaojlikkaajpmaaPathT
import Derived.Test.YtaojlikkaajpmaaClockP
import Derived.Test.YtaojlikkaajpmaaLead
import Derived.Test.YtaojlikkaajpmaaAbsZ
import Derived.Test.YtaojlikkaajpmaaTy
import Derived.Test.YtaojlikkaajpmaaShelf
import Derived.Lib.IndexMore
namespace Go.Proofs.Ytaojlikkaajpmaa.StampP
open Abs WordP WordS HostP HostO PathT

/-- Does it part words? -/
def sepI (n : Int) : Bool := decide (n = 9) || (decide (32 ≤ n) && decide (n ≤ 47)) || (decide (59 ≤ n) && decide (n ≤ 64)) || (decide (91 ≤ n) && decide (n ≤ 96)) || (decide (123 ≤ n) && decide (n ≤ 126))
def sepB (c : UInt8) : Bool := sepI (c.toNat : Int)
def wordsG (cur : List UInt8) : List UInt8 → List (List UInt8)
  | [] => if cur = [] then [] else [cur]
  | c :: r => if sepB c then (if cur = [] then wordsG [] r else cur :: wordsG [] r) else wordsG (cur ++ [c]) r
def wordsF (s : List UInt8) : List (List UInt8) := wordsG [] s
def lowB (c : UInt8) : UInt8 := if 126 < c.toNat then 122 else c
/-- Digits, from so many to so many: the number, and what is left. -/
def digF (w : List UInt8) (lo hi : Nat) : Int × List UInt8 × Bool := if hi < (lead w).length then (0, [], false) else ((value (lead w) : Nat), w.drop (lead w).length, decide (lo ≤ (lead w).length))
structure RD where
  y : Int
  m : Int
  d : Int
  h : Int
  mi : Int
  s : Int
  f0 : Bool
  f1 : Bool
  f2 : Bool
  f3 : Bool
abbrev RD.v (r : RD) : V := .agg [.int .i64 r.y, .int .i64 r.m, .int .i64 r.d, .int .i64 r.h, .int .i64 r.mi, .int .i64 r.s, .bool r.f0, .bool r.f1, .bool r.f2, .bool r.f3]
def rd0 : RD := ⟨0, 0, 0, 0, 0, 0, false, false, false, false⟩
/-- The time of day: whether the word tells one, and what it has then told. -/
def dayTimeF (w : List UInt8) (h mi s : Int) : Bool × Int × Int × Int :=
  if (digF w 1 2).2.2 = false then (false, h, mi, s) else
  if (cutP (digF w 1 2).2.1 [58]).2 = false then (false, (digF w 1 2).1, mi, s) else
  if (digF (cutP (digF w 1 2).2.1 [58]).1 1 2).2.2 = false then (false, (digF w 1 2).1, mi, s) else
  if (cutP (digF (cutP (digF w 1 2).2.1 [58]).1 1 2).2.1 [58]).2 = false then (false, (digF w 1 2).1, (digF (cutP (digF w 1 2).2.1 [58]).1 1 2).1, s) else
  if (digF (cutP (digF (cutP (digF w 1 2).2.1 [58]).1 1 2).2.1 [58]).1 1 2).2.2 = false then (false, (digF w 1 2).1, (digF (cutP (digF w 1 2).2.1 [58]).1 1 2).1, s) else
  (true, (digF w 1 2).1, (digF (cutP (digF w 1 2).2.1 [58]).1 1 2).1, (digF (cutP (digF (cutP (digF w 1 2).2.1 [58]).1 1 2).2.1 [58]).1 1 2).1)
def months : List (List UInt8) := [([106, 97, 110] : List UInt8), ([102, 101, 98] : List UInt8), ([109, 97, 114] : List UInt8), ([97, 112, 114] : List UInt8), ([109, 97, 121] : List UInt8), ([106, 117, 110] : List UInt8), ([106, 117, 108] : List UInt8), ([97, 117, 103] : List UInt8), ([115, 101, 112] : List UInt8), ([111, 99, 116] : List UInt8), ([110, 111, 118] : List UInt8), ([100, 101, 99] : List UInt8)]
/-- The month of a word; 0: none. -/
def monthF (w : List UInt8) : Nat := if w.length < 3 then 0 else match months.findIdx? (fun m => fold (w.take 3) == m) with
  | some i => i + 1
  | none => 0
def yearF (n : Int) : Int := if n < 70 then n + 2000 else if n < 100 then n + 1900 else n
/-- A word that is taken: the first thing that it may be. -/
def takeF (r : RD) (w : List UInt8) : RD :=
  if !r.f0 && (dayTimeF w r.h r.mi r.s).1 then { r with h := (dayTimeF w r.h r.mi r.s).2.1, mi := (dayTimeF w r.h r.mi r.s).2.2.1, s := (dayTimeF w r.h r.mi r.s).2.2.2, f0 := true } else
  if !r.f1 && (digF w 1 2).2.2 then { r with d := (digF w 1 2).1, f1 := true } else
  if !r.f2 && decide (0 < monthF w) then { r with m := (monthF w : Nat), f2 := true } else
  if !r.f3 && (digF w 2 4).2.2 then { r with y := yearF (digF w 2 4).1, f3 := true } else r
theorem value_lt (w : List UInt8) (n : Nat) (h : (lead w).length ≤ n) : value (lead w) < 10 ^ n := by
  have h1 := value_le _ (lead_all w)
  have h2 : 10 ^ (lead w).length ≤ 10 ^ n := Nat.pow_le_pow_right (by decide) h
  omega
theorem dig_range (w : List UInt8) (lo hi : Nat) : 0 ≤ (digF w lo hi).1 ∧ (digF w lo hi).1 < (10 : Nat) ^ hi := by
  unfold digF
  split
  · refine ⟨Int.le_refl _, ?_⟩
    show (0 : Int) < ((10 ^ hi : Nat) : Int)
    exact Int.ofNat_lt.2 (Nat.pow_pos (by decide))
  · refine ⟨Int.natCast_nonneg _, ?_⟩
    show ((value (lead w) : Nat) : Int) < ((10 ^ hi : Nat) : Int)
    exact Int.ofNat_lt.2 (value_lt w hi (by omega))
end Go.Proofs.Ytaojlikkaajpmaa.StampP
namespace Go.Proofs.Ytaojlikkaajpmaa.StampA
open Go.RowKit Mem Abs TreeW WordP WordS HostP HostO HostA PathT StampP Lead

set_option maxRecDepth 100000 in
set_option maxHeartbeats 4000000 in
theorem parts_v {n : Int} : ACalls Try.prog 23 [.int .i32 n] (.bool (sepI n)) := by
  refine fun1 tb_ok Try.func23 rfl Try.ntmps23 Try.results23 rfl fun N => ?_
  unfold sepI
  repeat' (first | refine zt ?_ | (refine isR ?_; first | refine zo ?_ | refine zc2 ?_ | refine zc4 ?_ | refine zc5 ?_ | (refine zs2 ?_ ?_ <;> intro hc) | (refine zs4 ?_ ?_ <;> intro hc) | (refine zs5 ?_ ?_ <;> intro hc)) | refine awp_split rfl (fun hb => ?_) (fun hb => ?_) | refine zr ?_ | exact x_le)
  all_goals (show V.bool _ = V.bool _; first | (simp [*]; done) | (simp [*]; omega))
set_option maxRecDepth 100000 in
set_option maxHeartbeats 4000000 in
theorem partsWords_v {c : UInt8} : ACalls Try.prog 59 [byteT c] (.bool (sepB c)) := by
  have hc := c.toNat_lt
  refine fun1 tb_ok Try.func59 rfl Try.ntmps59 Try.results59 rfl fun N => ?_
  unfold sepB sepI
  repeat' (first | refine zt ?_ | (refine isR ?_; first | refine zo ?_ | refine zc2 ?_ | refine zc4 ?_ | refine zc5 ?_ | refine zB ?_ | (refine zs2 ?_ ?_ <;> intro hc) | (refine zs4 ?_ ?_ <;> intro hc) | (refine zs5 ?_ ?_ <;> intro hc)) | refine awp_split rfl (fun hb => ?_) (fun hb => ?_) | refine zr ?_ | exact x_le)
  all_goals (show V.bool _ = V.bool _; first | (simp [*]; done) | (simp [*]; omega))
theorem lead_len (w : List UInt8) : (lead w).length ≤ w.length := by
  unfold lead
  exact (List.takeWhile_sublist _).length_le
theorem lead_is {w : List UInt8} {k : Nat} (hk : k ≤ w.length) (h : Upto digB w k) (he : ∀ c, w[k]? = some c → digB c = false) : (lead w).length = k := by
  rw [lead_at hk h he, List.length_take, Nat.min_eq_left hk]
theorem lead_more {w : List UInt8} {k : Nat} {c : UInt8} (h : Upto digB w k) (hc : w[k]? = some c) (hd : digB c = true) : k < (lead w).length := by
  induction w generalizing k with
  | nil => simp at hc
  | cons b r ih =>
    unfold lead
    cases k with
    | zero =>
      simp at hc; subst hc
      rw [List.takeWhile_cons, if_pos hd]; simp
    | succ k =>
      rw [List.takeWhile_cons, if_pos (h 0 b (by omega) rfl)]
      have := ih (k := k) (fun j y hj hy => h (j + 1) y (by omega) (by simpa using hy)) (by simpa using hc)
      unfold lead at this
      simp; omega
theorem value_take {w : List UInt8} {k : Nat} {c : UInt8} (h : w[k]? = some c) : value (w.take (k + 1)) = 10 * value (w.take k) + (c.toNat - 48) := by
  obtain ⟨hk, rfl⟩ := List.getElem?_eq_some_iff.1 h
  rw [List.take_succ_eq_append_getElem hk, value_snoc]
theorem value_bound {w : List UInt8} {k : Nat} (h : Upto digB w k) (hk : k ≤ 4) : value (w.take k) < 10000 := by
  have h1 := value_le _ (upto_take h)
  have h2 : 10 ^ (w.take k).length ≤ 10 ^ 4 := Nat.pow_le_pow_right (by decide) (by simp; omega)
  omega
set_option maxRecDepth 100000 in
set_option maxHeartbeats 4000000 in
theorem digits_v {w : List UInt8} {lo hi : Nat} (_hlo : lo ≤ 4) (hhi : hi ≤ 4) : ACalls Try.prog 77 [strT w, .int .i64 (lo : Int), .int .i64 (hi : Int)] (.tup [.int .i64 (digF w lo hi).1, strT (digF w lo hi).2.1, .bool (digF w lo hi).2.2]) := ACalls.lim fun hl => by
  obtain ⟨hl, _⟩ := TreeW.str_lim hl
  refine fun3 tb_ok Try.func77 rfl Try.ntmps77 Try.results77 rfl fun N => ?_
  repeat' (first | refine zt ?_ | (refine isR ?_; first | refine zo ?_ | refine zA ?_ | refine zL ?_ | refine zc1 ?_ | refine zc2 ?_ | refine zc3 ?_ | refine zc4 ?_ | refine zI ?_ | refine zS ?_ | refine zB ?_ | (refine zs1 ?_ ?_ <;> intro hc) | (refine zs2 ?_ ?_ <;> intro hc) | (refine zs3 ?_ ?_ <;> intro hc) | (refine zs4 ?_ ?_ <;> intro hc)) | refine awp_split rfl (fun hb => ?_) (fun hb => ?_) | refine zr ?_ | exact x_le)
  refine awp_for (fun k => ⟨[(0, strT w), (1, .int .i64 (lo : Int)), (2, .int .i64 (hi : Int)), (6, .int .i64 ((value (w.take k) : Nat) : Int)), (9, .int .i64 (k : Int))], [], 0, 47⟩) (fun k => k ≤ w.length ∧ k ≤ hi ∧ Upto digB w k) w.length 0 (by exact x_le) ⟨Nat.zero_le _, Nat.zero_le _, upto0⟩ ?_
  intro k ⟨hk, hk4, hq⟩
  have hv := value_bound hq (by omega)
  have fin : (∀ c, w[k]? = some c → digB c = false) → digF w lo hi = (((value (w.take k) : Nat) : Int), w.drop k, decide (lo ≤ k)) := fun he => by
    unfold digF
    rw [lead_is hk hq he, if_neg (by omega), lead_at hk hq he]
  by_cases hk2 : k < w.length
  · have e1 : w[k]? = some w[k] := by simp [hk2]
    have e1' : w[((k : Int) + 1 - 1).toNat]? = some w[k] := by rw [show ((k : Int) + 1 - 1).toNat = k by omega]; exact e1
    have e2 := value_take e1
    generalize w[k] = c at e1 e1' e2
    have hc := c.toNat_lt
    cases hd : digB c with
    | true =>
      have hn := dig_nat hd
      by_cases h4 : k + 1 ≤ hi
      · have hw : IntKind.u8.wrap ((c.toNat : Int) - 48) = ((c.toNat - 48 : Nat) : Int) := by
          simp only [IntKind.wrap, IntKind.bits, IntKind.signed]; simp; omega
        generalize hm : value (w.take k) = m at *
        rw [e2]
        repeat' (first | refine zt ?_ | (refine isR ?_; first | refine zo ?_ | refine x_subK ?_ | refine zA ?_ | refine zL ?_ | refine zc1 ?_ | refine zc2 ?_ | refine zc3 ?_ | refine zc4 ?_ | refine zI ?_ | refine zS ?_ | refine zB ?_ | (refine zs1 ?_ ?_ <;> intro hc) | (refine zs2 ?_ ?_ <;> intro hc) | (refine zs3 ?_ ?_ <;> intro hc) | (refine zs4 ?_ ?_ <;> intro hc)) | refine awp_split rfl (fun hb => ?_) (fun hb => ?_) | refine zr ?_ | exact x_le)
        refine ⟨⟨by omega, h4, hq.on e1 hd⟩, hk2, ?_⟩
        rw [show ((10 * m + (c.toNat - 48) : Nat) : Int) = 10 * (m : Int) + ((c.toNat - 48 : Nat) : Int) by omega]
        exact (by exact x_le)
      · have : hi < (lead w).length := by have := lead_more hq e1 hd; omega
        have e : digF w lo hi = (0, [], false) := by unfold digF; rw [if_pos this]
        rw [e]
        repeat' (first | refine zt ?_ | (refine isR ?_; first | refine zo ?_ | refine zA ?_ | refine zL ?_ | refine zc1 ?_ | refine zc2 ?_ | refine zc3 ?_ | refine zc4 ?_ | refine zI ?_ | refine zS ?_ | refine zB ?_ | (refine zs1 ?_ ?_ <;> intro hc) | (refine zs2 ?_ ?_ <;> intro hc) | (refine zs3 ?_ ?_ <;> intro hc) | (refine zs4 ?_ ?_ <;> intro hc)) | refine awp_split rfl (fun hb => ?_) (fun hb => ?_) | refine zr ?_ | exact x_le)
        rfl
    | false =>
      rw [fin fun x hx => by rw [e1] at hx; cases hx; exact hd]
      unfold digB at hd
      simp only [Bool.and_eq_false_iff, decide_eq_false_iff_not] at hd
      by_cases hlk : lo ≤ k
      · rw [decide_eq_true hlk]
        repeat' (first | refine zt ?_ | (refine isR ?_; first | refine zo ?_ | refine zA ?_ | refine zL ?_ | refine zc1 ?_ | refine zc2 ?_ | refine zc3 ?_ | refine zc4 ?_ | refine zI ?_ | refine zS ?_ | refine zB ?_ | (refine zs1 ?_ ?_ <;> intro hc) | (refine zs2 ?_ ?_ <;> intro hc) | (refine zs3 ?_ ?_ <;> intro hc) | (refine zs4 ?_ ?_ <;> intro hc)) | refine awp_split rfl (fun hb => ?_) (fun hb => ?_) | refine zr ?_ | exact x_le)
        all_goals first | rfl | (exfalso; omega)
      · rw [decide_eq_false hlk]
        repeat' (first | refine zt ?_ | (refine isR ?_; first | refine zo ?_ | refine zA ?_ | refine zL ?_ | refine zc1 ?_ | refine zc2 ?_ | refine zc3 ?_ | refine zc4 ?_ | refine zI ?_ | refine zS ?_ | refine zB ?_ | (refine zs1 ?_ ?_ <;> intro hc) | (refine zs2 ?_ ?_ <;> intro hc) | (refine zs3 ?_ ?_ <;> intro hc) | (refine zs4 ?_ ?_ <;> intro hc)) | refine awp_split rfl (fun hb => ?_) (fun hb => ?_) | refine zr ?_ | exact x_le)
        all_goals first | rfl | (exfalso; omega)
  · rw [fin fun x hx => by have := (List.getElem?_eq_some_iff.1 hx).1; omega]
    by_cases hlk : lo ≤ k
    · rw [decide_eq_true hlk]
      repeat' (first | refine zt ?_ | (refine isR ?_; first | refine zo ?_ | refine zA ?_ | refine zL ?_ | refine zc1 ?_ | refine zc2 ?_ | refine zc3 ?_ | refine zc4 ?_ | refine zI ?_ | refine zS ?_ | refine zB ?_ | (refine zs1 ?_ ?_ <;> intro hc) | (refine zs2 ?_ ?_ <;> intro hc) | (refine zs3 ?_ ?_ <;> intro hc) | (refine zs4 ?_ ?_ <;> intro hc)) | refine awp_split rfl (fun hb => ?_) (fun hb => ?_) | refine zr ?_ | exact x_le)
      rfl
    · rw [decide_eq_false hlk]
      repeat' (first | refine zt ?_ | (refine isR ?_; first | refine zo ?_ | refine zA ?_ | refine zL ?_ | refine zc1 ?_ | refine zc2 ?_ | refine zc3 ?_ | refine zc4 ?_ | refine zI ?_ | refine zS ?_ | refine zB ?_ | (refine zs1 ?_ ?_ <;> intro hc) | (refine zs2 ?_ ?_ <;> intro hc) | (refine zs3 ?_ ?_ <;> intro hc) | (refine zs4 ?_ ?_ <;> intro hc)) | refine awp_split rfl (fun hb => ?_) (fun hb => ?_) | refine zr ?_ | exact x_le)
      rfl
end Go.Proofs.Ytaojlikkaajpmaa.StampA
namespace Go.Proofs.Ytaojlikkaajpmaa.StampB
open Go.RowKit Mem Abs TreeW WordP WordS HostP HostO HostA PathT StampP StampA Lead

abbrev rowR (r : RD) : Blk := .els 50 10 [r.v]
/-- What is known of the package's variables tells of bytealg's number. -/
def HasMax (g : Glob) : Prop := 0 < g.n ∧ ∀ h, g.P h → ∃ m T fr, h 0 = some (.cells #[.int .i64 m] T fr)
theorem max_cell {g : Glob} {X : Nat → Prop} {w : World} (hg : HasMax g) (h : GlOk g X w) : ∃ m, w.cell? ⟨0, 0, none⟩ = some (.int .i64 m) := by
  obtain ⟨m, T, fr, hm⟩ := hg.2 _ h.2.2
  simp only [hg.1, if_true] at hm
  exact ⟨m, by simp [World.cell?, hm]⟩
theorem index_v {g : Glob} (hg : HasMax g) {l m : List UInt8} (hl : l.length < 4294967281) : ACallsG Try.prog g 78 [strT l, strT m] (.int .i64 (Lib.index l m)) := fun N w vs hG hN hlen hv => by
  obtain ⟨vs⟩ := vs
  match vs, hlen with
  | [x0, x1], _ =>
    obtain ⟨rfl, h0⟩ := fz_str (hv 0 _ x0 rfl rfl)
    obtain ⟨rfl, h1⟩ := fz_str (hv 1 _ x1 rfl rfl)
    obtain ⟨k, hk⟩ := max_cell hg hG
    refine (Try.strings_Index (str l) (str m) k w (by rw [str_size]; exact hl) hk).mono fun e w' ⟨g1, g2⟩ => ⟨_, g1, g2 ▸ Below.refl _ _, ?_⟩
    rw [str_toList, str_toList]
    have k1 := Lib.index_ge l m
    have k2 := Lib.index_le l m
    exact .int ⟨by simp only [rng]; omega, by simp only [rng]; omega⟩
set_option maxRecDepth 100000 in
set_option maxHeartbeats 4000000 in
theorem day_v {r : RD} {w : List UInt8} : MCalls Try.prog 52 [.loc 0 0 0, strT w] [rowR r] (.bool (digF w 1 2).2.2) [some (rowR { r with d := (digF w 1 2).1 })] := by
  have c1 := digits_v (w := w) (lo := 1) (hi := 2) (by decide) (by decide)
  generalize digF w 1 2 = q at *
  obtain ⟨r1, r2, r3, r4, r5, r6, r7, r8, r9, r10⟩ := r
  obtain ⟨q1, q2, q3⟩ := q
  dsimp only at *
  refine mfun tb_ok Try.func52 rfl Try.ntmps52 Try.results52 rfl rfl rfl rfl fun N pl => ?_
  repeat' (first | refine zt ?_ | (refine isR ?_; first | refine zo ?_ | refine zk c1 ?_) | refine awp_split rfl (fun hb => ?_) (fun hb => ?_) | refine x_mret [0] ?_ ?_ | refine x_mnor [0] ?_ ?_ | refine zr ?_ | exact x_le)
  · rfl
  · exact .on (.ren rfl) .nil
set_option maxRecDepth 100000 in
set_option maxHeartbeats 4000000 in
theorem year_v {r : RD} {w : List UInt8} : MCalls Try.prog 54 [.loc 0 0 0, strT w] [rowR r] (.bool (digF w 2 4).2.2) [some (rowR { r with y := yearF (digF w 2 4).1 })] := by
  have c1 := digits_v (w := w) (lo := 2) (hi := 4) (by decide) (by decide)
  have hr := dig_range w 2 4
  generalize digF w 2 4 = q at *
  obtain ⟨r1, r2, r3, r4, r5, r6, r7, r8, r9, r10⟩ := r
  obtain ⟨q1, q2, q3⟩ := q
  dsimp only at *
  have hr2 : q1 < 10000 := hr.2
  by_cases h1 : q1 < 70
  · rw [show yearF q1 = q1 + 2000 by unfold yearF; rw [if_pos h1]]
    refine mfun tb_ok Try.func54 rfl Try.ntmps54 Try.results54 rfl rfl rfl rfl fun N pl => ?_
    repeat' (first | refine zt ?_ | (refine isR ?_; first | refine zo ?_ | refine zk c1 ?_ | refine zA ?_ | refine zc1 ?_ | (refine zs1 ?_ ?_ <;> intro hc)) | refine awp_split rfl (fun hb => ?_) (fun hb => ?_) | refine x_mret [0] ?_ ?_ | refine x_mnor [0] ?_ ?_ | refine zr ?_ | exact x_le)
    · rfl
    · exact .on (.ren rfl) .nil
  · by_cases h2 : q1 < 100
    · rw [show yearF q1 = q1 + 1900 by unfold yearF; rw [if_neg h1, if_pos h2]]
      refine mfun tb_ok Try.func54 rfl Try.ntmps54 Try.results54 rfl rfl rfl rfl fun N pl => ?_
      repeat' (first | refine zt ?_ | (refine isR ?_; first | refine zo ?_ | refine zk c1 ?_ | refine zA ?_ | refine zc1 ?_ | (refine zs1 ?_ ?_ <;> intro hc)) | refine awp_split rfl (fun hb => ?_) (fun hb => ?_) | refine x_mret [0] ?_ ?_ | refine x_mnor [0] ?_ ?_ | refine zr ?_ | exact x_le)
      · rfl
      · exact .on (.ren rfl) .nil
    · rw [show yearF q1 = q1 by unfold yearF; rw [if_neg h1, if_neg h2]]
      refine mfun tb_ok Try.func54 rfl Try.ntmps54 Try.results54 rfl rfl rfl rfl fun N pl => ?_
      repeat' (first | refine zt ?_ | (refine isR ?_; first | refine zo ?_ | refine zk c1 ?_ | refine zA ?_ | refine zc1 ?_ | (refine zs1 ?_ ?_ <;> intro hc)) | refine awp_split rfl (fun hb => ?_) (fun hb => ?_) | refine x_mret [0] ?_ ?_ | refine x_mnor [0] ?_ ?_ | refine zr ?_ | exact x_le)
      · rfl
      · exact .on (.ren rfl) .nil
set_option maxRecDepth 100000 in
set_option maxHeartbeats 4000000 in
theorem ofDay_v {r : RD} {w : List UInt8} : MCalls Try.prog 51 [.loc 0 0 0, strT w] [rowR r] (.bool (dayTimeF w r.h r.mi r.s).1) [some (rowR { r with h := (dayTimeF w r.h r.mi r.s).2.1, mi := (dayTimeF w r.h r.mi r.s).2.2.1, s := (dayTimeF w r.h r.mi r.s).2.2.2 })] := by
  have c1 := digits_v (w := w) (lo := 1) (hi := 2) (by decide) (by decide)
  have c2 := cutPrefix_v (l := (digF w 1 2).2.1) (m := [58])
  have c3 := digits_v (w := (cutP (digF w 1 2).2.1 [58]).1) (lo := 1) (hi := 2) (by decide) (by decide)
  have c4 := cutPrefix_v (l := (digF (cutP (digF w 1 2).2.1 [58]).1 1 2).2.1) (m := [58])
  have c5 := digits_v (w := (cutP (digF (cutP (digF w 1 2).2.1 [58]).1 1 2).2.1 [58]).1) (lo := 1) (hi := 2) (by decide) (by decide)
  unfold dayTimeF
  generalize digF (cutP (digF (cutP (digF w 1 2).2.1 [58]).1 1 2).2.1 [58]).1 1 2 = q5 at *
  generalize cutP (digF (cutP (digF w 1 2).2.1 [58]).1 1 2).2.1 [58] = q4 at *
  generalize digF (cutP (digF w 1 2).2.1 [58]).1 1 2 = q3 at *
  generalize cutP (digF w 1 2).2.1 [58] = q2 at *
  generalize digF w 1 2 = q1 at *
  obtain ⟨r1, r2, r3, r4, r5, r6, r7, r8, r9, r10⟩ := r
  obtain ⟨q11, q12, q13⟩ := q1
  obtain ⟨q21, q22⟩ := q2
  obtain ⟨q31, q32, q33⟩ := q3
  obtain ⟨q41, q42⟩ := q4
  obtain ⟨q51, q52, q53⟩ := q5
  dsimp only at *
  cases q13
  · rw [if_pos rfl]
    refine mfun tb_ok Try.func51 rfl Try.ntmps51 Try.results51 rfl rfl rfl rfl fun N pl => ?_
    repeat' (first | with_reducible refine rounds_on ?_ | with_reducible refine awp_rounds 4 ?_ | refine zt ?_ | (refine isR ?_; first | refine zo ?_ | refine zk c1 ?_ | refine zA ?_ | refine zc1 ?_ | refine zc3 ?_ | refine zI ?_ | (refine zs1 ?_ ?_ <;> intro hc) | (refine zs3 ?_ ?_ <;> intro hc)) | refine awp_split rfl (fun hb => ?_) (fun hb => ?_) | refine x_mret [0] ?_ ?_ | refine x_mnor [0] ?_ ?_ | refine zr ?_ | exact x_le)
    · rfl
    · exact .on (.ren rfl) .nil
  · rw [if_neg (by simp)]
    cases q22
    · rw [if_pos rfl]
      refine mfun tb_ok Try.func51 rfl Try.ntmps51 Try.results51 rfl rfl rfl rfl fun N pl => ?_
      repeat' (first | with_reducible refine rounds_on ?_ | with_reducible refine awp_rounds 4 ?_ | refine zt ?_ | (refine isR ?_; first | refine zo ?_ | refine zk c1 ?_ | refine zk c2 ?_ | refine zA ?_ | refine zc1 ?_ | refine zc3 ?_ | refine zI ?_ | (refine zs1 ?_ ?_ <;> intro hc) | (refine zs3 ?_ ?_ <;> intro hc)) | refine awp_split rfl (fun hb => ?_) (fun hb => ?_) | refine x_mret [0] ?_ ?_ | refine x_mnor [0] ?_ ?_ | refine zr ?_ | exact x_le)
      · rfl
      · exact .on (.ren rfl) .nil
    · rw [if_neg (by simp)]
      cases q33
      · rw [if_pos rfl]
        refine mfun tb_ok Try.func51 rfl Try.ntmps51 Try.results51 rfl rfl rfl rfl fun N pl => ?_
        repeat' (first | with_reducible refine rounds_on ?_ | with_reducible refine awp_rounds 4 ?_ | refine zt ?_ | (refine isR ?_; first | refine zo ?_ | refine zk c1 ?_ | refine zk c2 ?_ | refine zk c3 ?_ | refine zA ?_ | refine zc1 ?_ | refine zc3 ?_ | refine zI ?_ | (refine zs1 ?_ ?_ <;> intro hc) | (refine zs3 ?_ ?_ <;> intro hc)) | refine awp_split rfl (fun hb => ?_) (fun hb => ?_) | refine x_mret [0] ?_ ?_ | refine x_mnor [0] ?_ ?_ | refine zr ?_ | exact x_le)
        · rfl
        · exact .on (.ren rfl) .nil
      · rw [if_neg (by simp)]
        cases q42
        · rw [if_pos rfl]
          refine mfun tb_ok Try.func51 rfl Try.ntmps51 Try.results51 rfl rfl rfl rfl fun N pl => ?_
          repeat' (first | with_reducible refine rounds_on ?_ | with_reducible refine awp_rounds 4 ?_ | refine zt ?_ | (refine isR ?_; first | refine zo ?_ | refine zk c1 ?_ | refine zk c2 ?_ | refine zk c3 ?_ | refine zk c4 ?_ | refine zA ?_ | refine zc1 ?_ | refine zc3 ?_ | refine zI ?_ | (refine zs1 ?_ ?_ <;> intro hc) | (refine zs3 ?_ ?_ <;> intro hc)) | refine awp_split rfl (fun hb => ?_) (fun hb => ?_) | refine x_mret [0] ?_ ?_ | refine x_mnor [0] ?_ ?_ | refine zr ?_ | exact x_le)
          · rfl
          · exact .on (.ren rfl) .nil
        · rw [if_neg (by simp)]
          cases q53
          · rw [if_pos rfl]
            refine mfun tb_ok Try.func51 rfl Try.ntmps51 Try.results51 rfl rfl rfl rfl fun N pl => ?_
            repeat' (first | with_reducible refine rounds_on ?_ | with_reducible refine awp_rounds 4 ?_ | refine zt ?_ | (refine isR ?_; first | refine zo ?_ | refine zk c1 ?_ | refine zk c2 ?_ | refine zk c3 ?_ | refine zk c4 ?_ | refine zk c5 ?_ | refine zA ?_ | refine zc1 ?_ | refine zc3 ?_ | refine zI ?_ | (refine zs1 ?_ ?_ <;> intro hc) | (refine zs3 ?_ ?_ <;> intro hc)) | refine awp_split rfl (fun hb => ?_) (fun hb => ?_) | refine x_mret [0] ?_ ?_ | refine x_mnor [0] ?_ ?_ | refine zr ?_ | exact x_le)
            · rfl
            · exact .on (.ren rfl) .nil
          · rw [if_neg (by simp)]
            refine mfun tb_ok Try.func51 rfl Try.ntmps51 Try.results51 rfl rfl rfl rfl fun N pl => ?_
            repeat' (first | with_reducible refine rounds_on ?_ | with_reducible refine awp_rounds 4 ?_ | refine zt ?_ | (refine isR ?_; first | refine zo ?_ | refine zk c1 ?_ | refine zk c2 ?_ | refine zk c3 ?_ | refine zk c4 ?_ | refine zk c5 ?_ | refine zA ?_ | refine zc1 ?_ | refine zc3 ?_ | refine zI ?_ | (refine zs1 ?_ ?_ <;> intro hc) | (refine zs3 ?_ ?_ <;> intro hc)) | refine awp_split rfl (fun hb => ?_) (fun hb => ?_) | refine x_mret [0] ?_ ?_ | refine x_mnor [0] ?_ ?_ | refine zr ?_ | exact x_le)
            · rfl
            · exact .on (.ren rfl) .nil
end Go.Proofs.Ytaojlikkaajpmaa.StampB
namespace Go.Proofs.Ytaojlikkaajpmaa.StampC
open Go.RowKit Mem Abs TreeW WordP WordS HostP HostO HostA PathT StampP StampA StampB Lead

def monthsS : List UInt8 := ([106, 97, 110, 102, 101, 98, 109, 97, 114, 97, 112, 114, 109, 97, 121, 106, 117, 110, 106, 117, 108, 97, 117, 103, 115, 101, 112, 111, 99, 116, 110, 111, 118, 100, 101, 99] : List UInt8)
theorem month_index {t : List UInt8} (ht : t.length = 3) : (∃ i : Nat, i < 12 ∧ months.findIdx? (fun m => t == m) = some i ∧ Lib.index monthsS t = ((3 * i : Nat) : Int)) ∨ (months.findIdx? (fun m => t == m) = none ∧ (Lib.index monthsS t < 0 ∨ ∃ n : Nat, Lib.index monthsS t = (n : Int) ∧ n ≤ 36 ∧ n % 3 ≠ 0)) := by
  by_cases hm : t ∈ months
  · left
    simp only [months, List.mem_cons, List.not_mem_nil, or_false] at hm
    rcases hm with rfl | rfl | rfl | rfl | rfl | rfl | rfl | rfl | rfl | rfl | rfl | rfl
    · exact ⟨0, by decide, by decide +kernel, by decide +kernel⟩
    · exact ⟨1, by decide, by decide +kernel, by decide +kernel⟩
    · exact ⟨2, by decide, by decide +kernel, by decide +kernel⟩
    · exact ⟨3, by decide, by decide +kernel, by decide +kernel⟩
    · exact ⟨4, by decide, by decide +kernel, by decide +kernel⟩
    · exact ⟨5, by decide, by decide +kernel, by decide +kernel⟩
    · exact ⟨6, by decide, by decide +kernel, by decide +kernel⟩
    · exact ⟨7, by decide, by decide +kernel, by decide +kernel⟩
    · exact ⟨8, by decide, by decide +kernel, by decide +kernel⟩
    · exact ⟨9, by decide, by decide +kernel, by decide +kernel⟩
    · exact ⟨10, by decide, by decide +kernel, by decide +kernel⟩
    · exact ⟨11, by decide, by decide +kernel, by decide +kernel⟩
  · right
    refine ⟨List.findIdx?_eq_none_iff.2 fun m hmm => by simpa using fun (e : t = m) => hm (e ▸ hmm), ?_⟩
    rcases Lib.index_spec monthsS t with ⟨h, _⟩ | ⟨i, h1, h2, h3, _⟩
    · left; omega
    · right
      have hl : monthsS.length = 36 := rfl
      have hroom : i + 3 ≤ 36 := by
        rcases Lib.occAt_room h3 with h | h
        · omega
        · subst h; cases ht
      refine ⟨i, h1, by omega, fun h0 => hm ?_⟩
      rw [Lib.occAt_iff_take _ _ _ (by omega), ht, beq_iff_eq] at h3
      rw [← h3]
      rcases (show i = 0 ∨ i = 3 ∨ i = 6 ∨ i = 9 ∨ i = 12 ∨ i = 15 ∨ i = 18 ∨ i = 21 ∨ i = 24 ∨ i = 27 ∨ i = 30 ∨ i = 33 by omega) with rfl | rfl | rfl | rfl | rfl | rfl | rfl | rfl | rfl | rfl | rfl | rfl <;> decide
set_option maxRecDepth 100000 in
set_option maxHeartbeats 4000000 in
theorem month_v {g : Glob} (hg : HasMax g) {r : RD} {w : List UInt8} : MCallsG Try.prog g 53 [.loc 0 0 0, strT w] [rowR r] (.bool (decide (0 < monthF w))) [some (rowR { r with m := if 0 < monthF w then (monthF w : Nat) else r.m })] := by
  obtain ⟨r1, r2, r3, r4, r5, r6, r7, r8, r9, r10⟩ := r
  dsimp only
  by_cases h3 : w.length < 3
  · have e : monthF w = 0 := by unfold monthF; rw [if_pos h3]
    rw [e]
    refine mfunG tb_ok Try.func53 rfl Try.ntmps53 Try.results53 rfl rfl rfl rfl fun N pl => ?_
    repeat' (first | refine zt ?_ | (refine isR ?_; first | refine zo ?_ | refine zA ?_ | refine zL ?_ | refine zc1 ?_ | refine zc6 ?_ | refine zS ?_ | (refine zs1 ?_ ?_ <;> intro hc) | (refine zs6 ?_ ?_ <;> intro hc)) | refine awp_split rfl (fun hb => ?_) (fun hb => ?_) | refine x_mret [0] ?_ ?_ | refine x_mnor [0] ?_ ?_ | refine zr ?_ | exact x_le)
    · rfl
    · exact .on (.ren rfl) .nil
  · have c1 := fold_v (l := w.take 3)
    have c2 := index_v hg (l := monthsS) (m := fold (w.take 3)) (by decide)
    have hlen : (fold (w.take 3)).length = 3 := by rw [fold_len]; first | (simp; done) | (simp; omega)
    have he : monthF w = match months.findIdx? (fun m => fold (w.take 3) == m) with
        | some i => i + 1
        | none => 0 := by unfold monthF; rw [if_neg h3]; try rfl
    rcases month_index hlen with ⟨i, h1, h2, h4⟩ | ⟨h2, h4⟩
    · rw [h2] at he
      rw [h4] at c2
      dsimp only at he
      rw [he, decide_eq_true (Nat.succ_pos i), if_pos (Nat.succ_pos i)]
      generalize fold (w.take 3) = t at *
      have q1 : (((3 * i : Nat) : Int)).tmod 3 = 0 := by rw [Int.tmod_eq_emod_of_nonneg (by omega)]; omega
      have q2 : IntKind.i64.wrap ((((3 * i : Nat) : Int)).tdiv 3) = (i : Int) := by
        rw [show (((3 * i : Nat) : Int)).tdiv 3 = (i : Int) by rw [Int.tdiv_eq_ediv_of_nonneg (by omega)]; omega]
        exact wrap64 (by omega) (by omega)
      have q3 : InR .i64 0 := inR_zero _
      have q4 : ((i : Int) + 1) = ((i + 1 : Nat) : Int) := by omega
      have q5 : (0 : Int) ≤ ((3 * i : Nat) : Int) := by omega
      generalize hn : ((3 * i : Nat) : Int) = n at *
      refine mfunG tb_ok Try.func53 rfl Try.ntmps53 Try.results53 rfl rfl rfl rfl fun N pl => ?_
      repeat' (first | refine zt ?_ | (refine isR ?_; first | refine zo ?_ | refine zk c1 ?_ | refine zk c2 ?_ | refine x_rem ?_ | refine x_quo ?_ | refine zA ?_ | refine zL ?_ | refine zc1 ?_ | refine zc6 ?_ | refine zS ?_ | (refine zs1 ?_ ?_ <;> intro hc) | (refine zs6 ?_ ?_ <;> intro hc)) | refine awp_split rfl (fun hb => ?_) (fun hb => ?_) | refine x_mret [0] ?_ ?_ | refine x_mnor [0] ?_ ?_ | refine zr ?_ | exact x_le)
      · rfl
      · exact .on (.ren rfl) .nil
    · rw [h2] at he
      dsimp only at he
      rw [he]
      rcases h4 with h4 | ⟨n, h4, h5, h6⟩
      · generalize Lib.index monthsS (fold (w.take 3)) = k at *
        generalize fold (w.take 3) = t at *
        refine mfunG tb_ok Try.func53 rfl Try.ntmps53 Try.results53 rfl rfl rfl rfl fun N pl => ?_
        repeat' (first | refine zt ?_ | (refine isR ?_; first | refine zo ?_ | refine zk c1 ?_ | refine zk c2 ?_ | refine zA ?_ | refine zL ?_ | refine zc1 ?_ | refine zc6 ?_ | refine zS ?_ | (refine zs1 ?_ ?_ <;> intro hc) | (refine zs6 ?_ ?_ <;> intro hc)) | refine awp_split rfl (fun hb => ?_) (fun hb => ?_) | refine x_mret [0] ?_ ?_ | refine x_mnor [0] ?_ ?_ | refine zr ?_ | exact x_le)
        · rfl
        · exact .on (.ren rfl) .nil
      · rw [h4] at c2
        generalize fold (w.take 3) = t at *
        have q1 : ((n : Nat) : Int).tmod 3 = ((n % 3 : Nat) : Int) := by rw [Int.tmod_eq_emod_of_nonneg (by omega)]; omega
        have q3 : InR .i64 ((n % 3 : Nat) : Int) := ⟨by simp only [rng]; omega, by simp only [rng]; omega⟩
        have q4 : ¬ ((n % 3 : Nat) : Int) = 0 := by omega
        refine mfunG tb_ok Try.func53 rfl Try.ntmps53 Try.results53 rfl rfl rfl rfl fun N pl => ?_
        repeat' (first | refine zt ?_ | (refine isR ?_; first | refine zo ?_ | refine zk c1 ?_ | refine zk c2 ?_ | refine x_rem ?_ | refine zA ?_ | refine zL ?_ | refine zc1 ?_ | refine zc6 ?_ | refine zS ?_ | (refine zs1 ?_ ?_ <;> intro hc) | (refine zs6 ?_ ?_ <;> intro hc)) | refine awp_split rfl (fun hb => ?_) (fun hb => ?_) | refine x_mret [0] ?_ ?_ | refine x_mnor [0] ?_ ?_ | refine zr ?_ | exact x_le)
        · rfl
        · exact .on (.ren rfl) .nil
end Go.Proofs.Ytaojlikkaajpmaa.StampC
namespace Go.Proofs.Ytaojlikkaajpmaa.StampD
open Go.RowKit Mem Abs TreeW WordP WordS HostP HostO HostA PathT StampP StampA StampB StampC Lead

/-- What is left to try from the first, second, third and fourth thing on. -/
def T3 (r : RD) (w : List UInt8) : RD := if !r.f3 && (digF w 2 4).2.2 then { r with y := yearF (digF w 2 4).1, f3 := true } else r
def T2 (r : RD) (w : List UInt8) : RD := if !r.f2 && decide (0 < monthF w) then { r with m := (monthF w : Nat), f2 := true } else T3 r w
def T1 (r : RD) (w : List UInt8) : RD := if !r.f1 && (digF w 1 2).2.2 then { r with d := (digF w 1 2).1, f1 := true } else T2 r w
theorem take_eq (r : RD) (w : List UInt8) : takeF r w = if !r.f0 && (dayTimeF w r.h r.mi r.s).1 then { r with h := (dayTimeF w r.h r.mi r.s).2.1, mi := (dayTimeF w r.h r.mi r.s).2.2.1, s := (dayTimeF w r.h r.mi r.s).2.2.2, f0 := true } else T1 r w := rfl
def Tk (r : RD) (w : List UInt8) : Nat → RD
  | 0 => takeF r w
  | 1 => T1 r w
  | 2 => T2 r w
  | 3 => T3 r w
  | _ => r
abbrev timeA (r : RD) : Abs.V := .agg [.int .i64 r.y, .int .i64 r.m, .int .i64 r.d, .int .i64 r.h, .int .i64 r.mi, .int .i64 r.s]
abbrev bound (f : Nat) : Abs.V := .fn (.func f) [.loc 0 0 0] []
set_option maxRecDepth 100000 in
set_option maxHeartbeats 4000000 in
theorem take_v {g : Glob} (hg : HasMax g) {r : RD} {w : List UInt8} : MCallsG Try.prog g 24 [.loc 0 0 0, strT w] [rowR r] (.tup []) [some (rowR (takeF r w))] := by
  have c0 := ofDay_v (r := r) (w := w)
  have c1 := day_v (r := r) (w := w)
  have c2 := month_v hg (r := r) (w := w)
  have c3 := year_v (r := r) (w := w)
  have t0 : Tk r w 0 = takeF r w := rfl
  have t1 := take_eq r w
  have t2 : T1 r w = if !r.f1 && (digF w 1 2).2.2 then { r with d := (digF w 1 2).1, f1 := true } else T2 r w := rfl
  have t3 : T2 r w = if !r.f2 && decide (0 < monthF w) then { r with m := (monthF w : Nat), f2 := true } else T3 r w := rfl
  have t4 : T3 r w = if !r.f3 && (digF w 2 4).2.2 then { r with y := yearF (digF w 2 4).1, f3 := true } else r := rfl
  have u1 : Tk r w 1 = T1 r w := rfl
  have u2 : Tk r w 2 = T2 r w := rfl
  have u3 : Tk r w 3 = T3 r w := rfl
  have u4 : Tk r w 4 = r := rfl
  generalize takeF r w = z at *
  generalize T1 r w = z1 at *
  generalize T2 r w = z2 at *
  generalize T3 r w = z3 at *
  generalize Tk r w = tk at *
  generalize dayTimeF w r.h r.mi r.s = p0 at *
  generalize digF w 1 2 = p1 at *
  generalize monthF w = p2 at *
  generalize digF w 2 4 = p3 at *
  obtain ⟨r1, r2, r3, r4, r5, r6, r7, r8, r9, r10⟩ := r
  obtain ⟨p01, p02, p03, p04⟩ := p0
  obtain ⟨p11, p12, p13⟩ := p1
  obtain ⟨p31, p32, p33⟩ := p3
  dsimp only at *
  refine mfunG tb_ok Try.func24 rfl Try.ntmps24 Try.results24 rfl rfl rfl rfl fun N pl => ?_
  repeat' (first | refine zt ?_ | (refine isR ?_; first | refine zo ?_ | refine zA ?_ | refine zc1 ?_ | refine zI ?_ | (refine zs1 ?_ ?_ <;> intro hc)) | refine awp_split rfl (fun hb => ?_) (fun hb => ?_) | refine zr ?_ | exact x_le)
  refine awp_for (fun k => ⟨[(0, .loc 0 0 0), (1, strT w), (4, .loc 1 0 0), (19, .agg [bound 51, bound 52, bound 53, bound 54]), (20, .int .i64 (k : Int))], [(0, some (rowR ⟨r1, r2, r3, r4, r5, r6, r7, r8, r9, r10⟩)), (1, some (.els 47 6 [timeA ⟨r1, r2, r3, r4, r5, r6, r7, r8, r9, r10⟩]))], 2, 49⟩) (fun k => k ≤ 4 ∧ tk k = z) 4 0 (by exact x_le) ⟨by omega, t0⟩ ?_
  intro k ⟨hk, hq⟩
  rcases (show k = 0 ∨ k = 1 ∨ k = 2 ∨ k = 3 ∨ k = 4 by omega) with rfl | rfl | rfl | rfl | rfl
  · cases r7
    · cases p01
      · skip
        repeat' (first | refine zt ?_ | (refine isR ?_; first | refine zo ?_ | refine x_mv [0] [] (c0 _) ?_ | refine x_m0v [0] [] (c0 _) ?_ | refine x_mv [0] [] (c0) ?_ | refine x_m0v [0] [] (c0) ?_ | refine zA ?_ | refine zc1 ?_ | refine zI ?_ | (refine zs1 ?_ ?_ <;> intro hc)) | refine awp_split rfl (fun hb => ?_) (fun hb => ?_) | refine zr ?_ | exact x_le)
        refine ⟨⟨by omega, ?_⟩, by omega, ?_⟩
        · rw [u1, t1]; rfl
        · exact (by exact x_le)
      · skip
        repeat' (first | refine zt ?_ | (refine isR ?_; first | refine zo ?_ | refine x_mv [0] [] (c0 _) ?_ | refine x_m0v [0] [] (c0 _) ?_ | refine x_mv [0] [] (c0) ?_ | refine x_m0v [0] [] (c0) ?_ | refine zA ?_ | refine zc1 ?_ | refine zI ?_ | (refine zs1 ?_ ?_ <;> intro hc)) | refine awp_split rfl (fun hb => ?_) (fun hb => ?_) | refine x_mret [0] ?_ ?_ | refine x_mnor [0] ?_ ?_ | refine zr ?_ | exact x_le)
        · rfl
        · rw [t1]; exact .on (.ren rfl) .nil
    · skip
      repeat' (first | refine zt ?_ | (refine isR ?_; first | refine zo ?_ | refine zA ?_ | refine zc1 ?_ | refine zI ?_ | (refine zs1 ?_ ?_ <;> intro hc)) | refine awp_split rfl (fun hb => ?_) (fun hb => ?_) | refine zr ?_ | exact x_le)
      refine ⟨⟨by omega, ?_⟩, by omega, ?_⟩
      · rw [u1, t1]; rfl
      · exact (by exact x_le)
  · rw [u1] at hq
    cases r8
    · cases p13
      · skip
        repeat' (first | refine zt ?_ | (refine isR ?_; first | refine zo ?_ | refine x_mv [0] [] (c1 _) ?_ | refine x_m0v [0] [] (c1 _) ?_ | refine x_mv [0] [] (c1) ?_ | refine x_m0v [0] [] (c1) ?_ | refine zA ?_ | refine zc1 ?_ | refine zI ?_ | (refine zs1 ?_ ?_ <;> intro hc)) | refine awp_split rfl (fun hb => ?_) (fun hb => ?_) | refine zr ?_ | exact x_le)
        refine ⟨⟨by omega, ?_⟩, by omega, ?_⟩
        · rw [u2, ← hq, t2]; rfl
        · exact (by exact x_le)
      · skip
        repeat' (first | refine zt ?_ | (refine isR ?_; first | refine zo ?_ | refine x_mv [0] [] (c1 _) ?_ | refine x_m0v [0] [] (c1 _) ?_ | refine x_mv [0] [] (c1) ?_ | refine x_m0v [0] [] (c1) ?_ | refine zA ?_ | refine zc1 ?_ | refine zI ?_ | (refine zs1 ?_ ?_ <;> intro hc)) | refine awp_split rfl (fun hb => ?_) (fun hb => ?_) | refine x_mret [0] ?_ ?_ | refine x_mnor [0] ?_ ?_ | refine zr ?_ | exact x_le)
        · rfl
        · rw [← hq, t2]; exact .on (.ren rfl) .nil
    · skip
      repeat' (first | refine zt ?_ | (refine isR ?_; first | refine zo ?_ | refine zA ?_ | refine zc1 ?_ | refine zI ?_ | (refine zs1 ?_ ?_ <;> intro hc)) | refine awp_split rfl (fun hb => ?_) (fun hb => ?_) | refine zr ?_ | exact x_le)
      refine ⟨⟨by omega, ?_⟩, by omega, ?_⟩
      · rw [u2, ← hq, t2]; rfl
      · exact (by exact x_le)
  · rw [u2] at hq
    cases r9
    · by_cases h0 : 0 < p2
      · rw [decide_eq_true h0, if_pos h0] at c2
        rw [decide_eq_true h0] at t3
        repeat' (first | refine zt ?_ | (refine isR ?_; first | refine zo ?_ | refine x_mv [0] [] (c2 _) ?_ | refine x_m0v [0] [] (c2 _) ?_ | refine x_mv [0] [] (c2) ?_ | refine x_m0v [0] [] (c2) ?_ | refine zA ?_ | refine zc1 ?_ | refine zI ?_ | (refine zs1 ?_ ?_ <;> intro hc)) | refine awp_split rfl (fun hb => ?_) (fun hb => ?_) | refine x_mret [0] ?_ ?_ | refine x_mnor [0] ?_ ?_ | refine zr ?_ | exact x_le)
        · rfl
        · rw [← hq, t3]; exact .on (.ren rfl) .nil
      · rw [decide_eq_false h0, if_neg h0] at c2
        rw [decide_eq_false h0] at t3
        repeat' (first | refine zt ?_ | (refine isR ?_; first | refine zo ?_ | refine x_mv [0] [] (c2 _) ?_ | refine x_m0v [0] [] (c2 _) ?_ | refine x_mv [0] [] (c2) ?_ | refine x_m0v [0] [] (c2) ?_ | refine zA ?_ | refine zc1 ?_ | refine zI ?_ | (refine zs1 ?_ ?_ <;> intro hc)) | refine awp_split rfl (fun hb => ?_) (fun hb => ?_) | refine zr ?_ | exact x_le)
        refine ⟨⟨by omega, ?_⟩, by omega, ?_⟩
        · rw [u3, ← hq, t3]; rfl
        · exact (by exact x_le)
    · skip
      repeat' (first | refine zt ?_ | (refine isR ?_; first | refine zo ?_ | refine zA ?_ | refine zc1 ?_ | refine zI ?_ | (refine zs1 ?_ ?_ <;> intro hc)) | refine awp_split rfl (fun hb => ?_) (fun hb => ?_) | refine zr ?_ | exact x_le)
      refine ⟨⟨by omega, ?_⟩, by omega, ?_⟩
      · rw [u3, ← hq, t3]; rfl
      · exact (by exact x_le)
  · rw [u3] at hq
    cases r10
    · cases p33
      · skip
        repeat' (first | refine zt ?_ | (refine isR ?_; first | refine zo ?_ | refine x_mv [0] [] (c3 _) ?_ | refine x_m0v [0] [] (c3 _) ?_ | refine x_mv [0] [] (c3) ?_ | refine x_m0v [0] [] (c3) ?_ | refine zA ?_ | refine zc1 ?_ | refine zI ?_ | (refine zs1 ?_ ?_ <;> intro hc)) | refine awp_split rfl (fun hb => ?_) (fun hb => ?_) | refine zr ?_ | exact x_le)
        refine ⟨⟨by omega, ?_⟩, by omega, ?_⟩
        · rw [u4, ← hq, t4]; rfl
        · exact (by exact x_le)
      · skip
        repeat' (first | refine zt ?_ | (refine isR ?_; first | refine zo ?_ | refine x_mv [0] [] (c3 _) ?_ | refine x_m0v [0] [] (c3 _) ?_ | refine x_mv [0] [] (c3) ?_ | refine x_m0v [0] [] (c3) ?_ | refine zA ?_ | refine zc1 ?_ | refine zI ?_ | (refine zs1 ?_ ?_ <;> intro hc)) | refine awp_split rfl (fun hb => ?_) (fun hb => ?_) | refine x_mret [0] ?_ ?_ | refine x_mnor [0] ?_ ?_ | refine zr ?_ | exact x_le)
        · rfl
        · rw [← hq, t4]; exact .on (.ren rfl) .nil
    · skip
      repeat' (first | refine zt ?_ | (refine isR ?_; first | refine zo ?_ | refine zA ?_ | refine zc1 ?_ | refine zI ?_ | (refine zs1 ?_ ?_ <;> intro hc)) | refine awp_split rfl (fun hb => ?_) (fun hb => ?_) | refine zr ?_ | exact x_le)
      refine ⟨⟨by omega, ?_⟩, by omega, ?_⟩
      · rw [u4, ← hq, t4]; rfl
      · exact (by exact x_le)
  · rw [u4] at hq
    repeat' (first | refine zt ?_ | (refine isR ?_; first | refine zo ?_ | refine zA ?_ | refine zc1 ?_ | refine zI ?_ | (refine zs1 ?_ ?_ <;> intro hc)) | refine awp_split rfl (fun hb => ?_) (fun hb => ?_) | refine x_mret [0] ?_ ?_ | refine x_mnor [0] ?_ ?_ | refine zr ?_ | exact x_le)
    · rfl
    · rw [← hq]; exact .on (.ren rfl) .nil
end Go.Proofs.Ytaojlikkaajpmaa.StampD
