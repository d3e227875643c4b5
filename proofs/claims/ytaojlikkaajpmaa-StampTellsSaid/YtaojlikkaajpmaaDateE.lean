/- Dates: a moment's text. -/
import Derived.Test.YtaojlikkaajpmaaWk
import Derived.Test.YtaojlikkaajpmaaDateD
namespace Go.Proofs.Ytaojlikkaajpmaa.StampM
open Go.RowKit Mem Abs TreeW WordP WordS HostP HostO HostA PathT StampP StampA StampB StampC StampD StampE StampF StampG StampH StampI StampJ StampK StampL Lead ClockP ClockW ClockO ClockR ClockM ClockT ClockI ClockV

def daysB : List UInt8 := ([83, 117, 110, 77, 111, 110, 84, 117, 101, 87, 101, 100, 84, 104, 117, 70, 114, 105, 83, 97, 116] : List UInt8)
def shownB : List UInt8 := ([74, 97, 110, 70, 101, 98, 77, 97, 114, 65, 112, 114, 77, 97, 121, 74, 117, 110, 74, 117, 108, 65, 117, 103, 83, 101, 112, 79, 99, 116, 78, 111, 118, 68, 101, 99] : List UInt8)
def dayN : List (List UInt8) := [([83, 117, 110] : List UInt8), ([77, 111, 110] : List UInt8), ([84, 117, 101] : List UInt8), ([87, 101, 100] : List UInt8), ([84, 104, 117] : List UInt8), ([70, 114, 105] : List UInt8), ([83, 97, 116] : List UInt8)]
def monN : List (List UInt8) := [([74, 97, 110] : List UInt8), ([70, 101, 98] : List UInt8), ([77, 97, 114] : List UInt8), ([65, 112, 114] : List UInt8), ([77, 97, 121] : List UInt8), ([74, 117, 110] : List UInt8), ([74, 117, 108] : List UInt8), ([65, 117, 103] : List UInt8), ([83, 101, 112] : List UInt8), ([79, 99, 116] : List UInt8), ([78, 111, 118] : List UInt8), ([68, 101, 99] : List UInt8)]
def wkA (w : Nat) : List UInt8 := (dayN[w]?).getD []
def moA (m : Nat) : List UInt8 := (monN[m - 1]?).getD []
def two (m : Nat) : List UInt8 := [dgt (m / 10), dgt m]
def four (m : Nat) : List UInt8 := [dgt (m / 10 / 10 / 10), dgt (m / 10 / 10), dgt (m / 10), dgt m]
def textA (w y m d h mi s : Nat) : List UInt8 := wkA w ++ ([44, 32] : List UInt8) ++ two d ++ ([32] : List UInt8) ++ moA m ++ ([32] : List UInt8) ++ four y ++ ([32] : List UInt8) ++ two h ++ ([58] : List UInt8) ++ two mi ++ ([58] : List UInt8) ++ two s ++ ([32, 71, 77, 84] : List UInt8)
def textF (n : Int) : List UInt8 := if isB n then textA (wdF n).toNat (tmF n).y.toNat (tmF n).m.toNat (tmF n).d.toNat (tmF n).h.toNat (tmF n).mi.toNat (tmF n).s.toNat else []
theorem wk_all : ∀ w : Fin 7, (daysB.take (3 * w.val + 3)).drop (3 * w.val) = wkA w.val ∧ (dayN.map strT)[w.val]? = some (strT (wkA w.val)) ∧ (wkA w.val).length = 3 := fun ⟨w, h⟩ => by
  match w, h with
  | 0, _ => exact ⟨rfl, rfl, rfl⟩
  | 1, _ => exact ⟨rfl, rfl, rfl⟩
  | 2, _ => exact ⟨rfl, rfl, rfl⟩
  | 3, _ => exact ⟨rfl, rfl, rfl⟩
  | 4, _ => exact ⟨rfl, rfl, rfl⟩
  | 5, _ => exact ⟨rfl, rfl, rfl⟩
  | 6, _ => exact ⟨rfl, rfl, rfl⟩
theorem mo_all : ∀ m : Fin 12, (shownB.take (3 * (m.val + 1))).drop (3 * m.val) = moA (m.val + 1) ∧ (monN.map strT)[m.val]? = some (strT (moA (m.val + 1))) ∧ (moA (m.val + 1)).length = 3 := fun ⟨m, h⟩ => by
  match m, h with
  | 0, _ => exact ⟨rfl, rfl, rfl⟩
  | 1, _ => exact ⟨rfl, rfl, rfl⟩
  | 2, _ => exact ⟨rfl, rfl, rfl⟩
  | 3, _ => exact ⟨rfl, rfl, rfl⟩
  | 4, _ => exact ⟨rfl, rfl, rfl⟩
  | 5, _ => exact ⟨rfl, rfl, rfl⟩
  | 6, _ => exact ⟨rfl, rfl, rfl⟩
  | 7, _ => exact ⟨rfl, rfl, rfl⟩
  | 8, _ => exact ⟨rfl, rfl, rfl⟩
  | 9, _ => exact ⟨rfl, rfl, rfl⟩
  | 10, _ => exact ⟨rfl, rfl, rfl⟩
  | 11, _ => exact ⟨rfl, rfl, rfl⟩
theorem dgt_mod {a b : Nat} (h : a % 10 = b % 10) : dgt a = dgt b := by unfold dgt; rw [h]
theorem four_two (y : Nat) (_hy : y ≤ 9999) : [dgt (y / 100 / 10), dgt (y / 100)] ++ [dgt (y % 100 / 10), dgt (y % 100)] = four y := by
  unfold four
  rw [dgt_mod (a := y / 100 / 10) (b := y / 10 / 10 / 10) (by omega), dgt_mod (a := y / 100) (b := y / 10 / 10) (by omega), dgt_mod (a := y % 100 / 10) (b := y / 10) (by omega), dgt_mod (a := y % 100) (b := y) (by omega)]
  rfl
/-- A moment of the range, as natural numbers. -/
theorem nums {n : Int} (hb : isB n = true) : ∃ y m d h mi s w : Nat, tmF n = ⟨y, m, d, h, mi, s⟩ ∧ wdF n = w ∧ w < 7 ∧ y ≤ 9999 ∧ 1 ≤ m ∧ m ≤ 12 ∧ d ≤ 31 ∧ h ≤ 23 ∧ mi ≤ 59 ∧ s ≤ 59 ∧ textF n = textA w y m d h mi s := by
  obtain ⟨b1, b2, b3, b4, b5, b6⟩ := tm_bd (n := n)
  obtain ⟨⟨⟨h1, h2, h3, h4⟩, h5, h6, h7, h8, h9, h10⟩, _⟩ := tm_right hb
  have hm := vld_m ⟨h1, h2, h3, h4⟩
  have hw := wd_bd n
  have ht : textF n = textA (wdF n).toNat (tmF n).y.toNat (tmF n).m.toNat (tmF n).d.toNat (tmF n).h.toNat (tmF n).mi.toNat (tmF n).s.toNat := by unfold textF; rw [if_pos hb]
  generalize tmF n = t at *
  generalize wdF n = w at *
  obtain ⟨y, m, d, h, mi, s⟩ := t
  dsimp only at *
  refine ⟨y.toNat, m.toNat, d.toNat, h.toNat, mi.toNat, s.toNat, w.toNat, ?_, by omega, by omega, by omega, by omega, by omega, by omega, by omega, by omega, by omega, ht⟩
  rw [Int.toNat_of_nonneg b1.1, Int.toNat_of_nonneg b2.1, Int.toNat_of_nonneg b3.1, Int.toNat_of_nonneg b4.1, Int.toNat_of_nonneg b5.1, Int.toNat_of_nonneg b6.1]
end Go.Proofs.Ytaojlikkaajpmaa.StampM
namespace Go.Proofs.Ytaojlikkaajpmaa.StampN
open Go.RowKit Mem Abs TreeW WordP WordS HostP HostO HostA PathT StampP StampA StampB StampC StampD StampE StampF StampG StampH StampI StampJ StampK StampL StampM Lead ClockP ClockW ClockO ClockR ClockM ClockT ClockI ClockV

set_option maxRecDepth 100000 in
set_option maxHeartbeats 4000000 in
theorem write_v {n : Int} : ACalls Try.prog 9 [.int .i64 n] (.tup [strT (textF n), .int .i64 (teF n)]) := by
  have c1 := time_v (n := n)
  have c2 := weekday_v (n := n)
  cases hb : isB n with
  | false =>
    have te : teF n = 3 := by unfold teF; rw [if_neg (by simp [hb])]
    have tx : textF n = [] := by unfold textF; rw [if_neg (by simp [hb])]
    rw [te] at c1 c2
    rw [te, tx]
    generalize tmF n = t at *
    obtain ⟨y, m, d, h, mi, s⟩ := t
    refine fun1 tb_ok Try.func9 rfl Try.ntmps9 Try.results9 rfl fun N => ?_
    repeat' (first | refine zt ?_ | (refine isR ?_; first | refine zo ?_ | refine zk c1 ?_ | refine zk c2 ?_ | refine zA ?_ | refine zc6 ?_ | refine zS ?_ | (refine zs6 ?_ ?_ <;> intro hc)) | refine awp_split rfl (fun hb => ?_) (fun hb => ?_) | refine zr ?_ | exact x_le)
    rfl
  | true =>
    have te : teF n = 0 := by unfold teF; rw [if_pos hb]
    obtain ⟨y, m, d, h, mi, s, w, ht, hw, b1, b2, b3, b4, b5, b6, b7, b8, tx⟩ := nums hb
    rw [te, ht] at c1
    dsimp only [TM.v] at c1
    rw [te, hw] at c2
    rw [te, tx]
    obtain ⟨wa, wb, wc⟩ := wk_all ⟨w, b1⟩
    obtain ⟨ma, mb, mc⟩ := mo_all ⟨m - 1, by omega⟩
    dsimp only at wa wb wc ma mb mc
    rw [show m - 1 + 1 = m by omega] at ma mb mc
    have dl : daysB.length = 21 := rfl
    have sl : shownB.length = 36 := rfl
    have wd : (daysB.take (3 * (w : Int) + 3).toNat).drop (3 * (w : Int)).toNat = wkA w := by
      rw [show (3 * (w : Int) + 3).toNat = 3 * w + 3 by omega, show (3 * (w : Int)).toNat = 3 * w by omega]; exact wa
    have md : (shownB.take (3 * (m : Int)).toNat).drop (3 * (m : Int) - 3).toNat = moA m := by
      rw [show (3 * (m : Int)).toNat = 3 * m by omega, show (3 * (m : Int) - 3).toNat = 3 * (m - 1) by omega]; exact ma
    have c3 := padded2_v (m := d) (by omega)
    have c4 := padded4_v (m := y) (by omega)
    have c5 := padded2_v (m := h) (by omega)
    have c6 := padded2_v (m := mi) (by omega)
    have c7 := padded2_v (m := s) (by omega)
    have wl : ((daysB.take (3 * (w : Int) + 3).toNat).drop (3 * (w : Int)).toNat).length = 3 := by rw [wd]; exact wc
    have ml : ((shownB.take (3 * (m : Int)).toNat).drop (3 * (m : Int) - 3).toNat).length = 3 := by rw [md]; exact mc
    have z1 : [dgt (d / 10), dgt d].length = 2 := rfl
    have z2 : [dgt (h / 10), dgt h].length = 2 := rfl
    have z3 : [dgt (mi / 10), dgt mi].length = 2 := rfl
    have z4 : [dgt (s / 10), dgt s].length = 2 := rfl
    have z5 : [dgt (y / 10 / 10 / 10), dgt (y / 10 / 10), dgt (y / 10), dgt y].length = 4 := rfl
    refine fun1 tb_ok Try.func9 rfl Try.ntmps9 Try.results9 rfl fun N => ?_
    repeat' (first | refine zt ?_ | (refine isR ?_; first | refine zo ?_ | refine zk c1 ?_ | refine zk c2 ?_ | refine zk c3 ?_ | refine zk c4 ?_ | refine zk c5 ?_ | refine zk c6 ?_ | refine zk c7 ?_ | refine x_slSm (p := daysB) tb_ok ?_ | refine x_slSm (p := shownB) tb_ok ?_ | refine zA ?_ | refine zc6 ?_ | refine zS ?_ | (refine zs6 ?_ ?_ <;> intro hc)) | refine awp_split rfl (fun hb => ?_) (fun hb => ?_) | refine zr ?_ | exact x_le)
    rw [wd, md]
    rfl
set_option maxRecDepth 100000 in
set_option maxHeartbeats 4000000 in
theorem stampText_v {n : Int} : ACalls Try.prog 11 [.int .i64 n] (.tup [strT (textF n), .int .i64 (teF n)]) := by
  have c1 := timeOf_v (n := n)
  have c2 := weekdayOf_v (n := n)
  cases hb : isB n with
  | false =>
    have te : teF n = 3 := by unfold teF; rw [if_neg (by simp [hb])]
    have tx : textF n = [] := by unfold textF; rw [if_neg (by simp [hb])]
    rw [te] at c1 c2
    rw [te, tx]
    generalize tmF n = t at *
    obtain ⟨y, m, d, h, mi, s⟩ := t
    refine fun1 tb_ok Try.func11 rfl Try.ntmps11 Try.results11 rfl fun N => ?_
    repeat' (first | refine zt ?_ | (refine isR ?_; first | refine zo ?_ | refine zk c1 ?_ | refine zk c2 ?_ | refine x_bs tb_ok ?_ | refine zA ?_ | refine zc6 ?_ | refine zI ?_ | (refine zs6 ?_ ?_ <;> intro hc)) | refine awp_split rfl (fun hb => ?_) (fun hb => ?_) | refine zr ?_ | exact x_le)
    rfl
  | true =>
    have te : teF n = 0 := by unfold teF; rw [if_pos hb]
    obtain ⟨y, m, d, h, mi, s, w, ht, hw, b1, b2, b3, b4, b5, b6, b7, b8, tx⟩ := nums hb
    rw [te, ht] at c1
    dsimp only [TM.v] at c1
    rw [te, hw] at c2
    rw [te, tx]
    obtain ⟨wa, wb, wc⟩ := wk_all ⟨w, b1⟩
    obtain ⟨ma, mb, mc⟩ := mo_all ⟨m - 1, by omega⟩
    dsimp only at wa wb wc ma mb mc
    rw [show m - 1 + 1 = m by omega] at ma mb mc
    have dl : (dayN.map strT).length = 7 := rfl
    have sl : (monN.map strT).length = 12 := rfl
    have wb : (dayN.map strT)[((w : Int)).toNat]? = some (strT (wkA w)) := wb
    have mb : (monN.map strT)[((m : Int) - 1).toNat]? = some (strT (moA m)) := by rw [show ((m : Int) - 1).toNat = m - 1 by omega]; exact mb
    have q1 : IntKind.i64.wrap ((y : Int).tdiv 100) = ((y / 100 : Nat) : Int) := by
      rw [Int.tdiv_eq_ediv_of_nonneg (by omega)]
      exact wrap64 (by omega) (by omega)
    have q2 : (y : Int).tmod 100 = ((y % 100 : Nat) : Int) := by rw [Int.tmod_eq_emod_of_nonneg (by omega)]; omega
    have q3 : InR .i64 ((y % 100 : Nat) : Int) := ⟨by simp only [rng]; omega, by simp only [rng]; omega⟩
    have c3 := twoDigits_v (m := d) (by omega)
    have c4 := twoDigits_v (m := y / 100) (by omega)
    have c8 := twoDigits_v (m := y % 100) (by omega)
    have c5 := twoDigits_v (m := h) (by omega)
    have c6 := twoDigits_v (m := mi) (by omega)
    have c7 := twoDigits_v (m := s) (by omega)
    have z1 : [dgt (d / 10), dgt d].length = 2 := rfl
    have z2 : [dgt (h / 10), dgt h].length = 2 := rfl
    have z3 : [dgt (mi / 10), dgt mi].length = 2 := rfl
    have z4 : [dgt (s / 10), dgt s].length = 2 := rfl
    have z5 : [dgt (y / 100 / 10), dgt (y / 100)].length = 2 := rfl
    have z6 : [dgt (y % 100 / 10), dgt (y % 100)].length = 2 := rfl
    have hf := four_two y b2
    refine fun1 tb_ok Try.func11 rfl Try.ntmps11 Try.results11 rfl fun N => ?_
    repeat' (first | refine zt ?_ | (refine isR ?_; first | refine zo ?_ | refine zk c1 ?_ | refine zk c2 ?_ | refine zk c3 ?_ | refine zk c4 ?_ | refine zk c5 ?_ | refine zk c6 ?_ | refine zk c7 ?_ | refine zk c8 ?_ | refine x_quo ?_ | refine x_rem ?_ | refine x_bs tb_ok ?_ | refine zA ?_ | refine zc6 ?_ | refine zI ?_ | (refine zs6 ?_ ?_ <;> intro hc)) | refine awp_split rfl (fun hb => ?_) (fun hb => ?_) | refine zr ?_ | exact x_le)
    unfold textA
    rw [← hf]
    simp only [List.append_assoc]
    rfl
end Go.Proofs.Ytaojlikkaajpmaa.StampN
namespace Go.Proofs.Ytaojlikkaajpmaa.StampO
open Go.RowKit Mem Abs TreeW WordP WordS HostP HostO HostA PathT StampP StampA StampB StampC StampD StampE StampF StampG StampH StampI StampJ StampK StampL StampM StampN Lead ClockP ClockW ClockO ClockR ClockM ClockT ClockI ClockV

theorem read_right {s : List UInt8} {y m d h mi e : Int} (hl : ¬ 400 < s.length) (hf : foundF s = ⟨y, m, d, h, mi, e, true, true, true, true⟩) : readF s = ofF y m d h mi e := by
  unfold readF
  rw [if_neg hl, hf]
  rfl
def t1A : List UInt8 := ([83, 117, 110, 44, 32, 48, 54, 32, 78, 111, 118, 32, 49, 57, 57, 52, 32, 48, 56, 58, 52, 57, 58, 51, 55, 32, 71, 77, 84] : List UInt8)
def t2A : List UInt8 := ([110, 111, 118, 45, 48, 54, 45, 57, 52, 32, 56, 58, 52, 57, 58, 51, 55, 122, 111, 110, 101] : List UInt8)
def t3A : List UInt8 := ([48, 54, 32, 78, 111, 118, 32, 49, 57, 57, 52] : List UInt8)
def t4A : List UInt8 := ([51, 49, 32, 70, 101, 98, 32, 50, 48, 48, 48, 32, 48, 48, 58, 48, 48, 58, 48, 48] : List UInt8)
theorem r1 : readF t1A = (784111777, 0) := by
  rw [read_right (by decide) (show foundF t1A = ⟨1994, 11, 6, 8, 49, 37, true, true, true, true⟩ by kernel_rfl), ofF_yes (by unfold right vld; decide)]
  exact Prod.ext (by unfold mom; decide) rfl
theorem r2 : readF t2A = (784111777, 0) := by
  rw [read_right (by decide) (show foundF t2A = ⟨1994, 11, 6, 8, 49, 37, true, true, true, true⟩ by kernel_rfl), ofF_yes (by unfold right vld; decide)]
  exact Prod.ext (by unfold mom; decide) rfl
theorem r3 : readF t3A = (0, 1) := by
  have hf : foundF t3A = ⟨1994, 11, 6, 0, 0, 0, false, true, true, true⟩ := by kernel_rfl
  unfold readF
  rw [if_neg (by decide), hf]
  rfl
theorem r4 : readF t4A = (0, 3) := by
  rw [read_right (by decide) (show foundF t4A = ⟨2000, 2, 31, 0, 0, 0, true, true, true, true⟩ by kernel_rfl), ofF_no (by unfold right vld; decide)]
theorem w1 : textF 784111777 = t1A := by kernel_rfl
theorem w2 : teF 784111777 = 0 := by kernel_rfl
set_option maxRecDepth 100000 in
set_option maxHeartbeats 4000000 in
theorem begun_v {g : Glob} (hg : HasMax g) : ACallsG Try.prog g 12 [] (.bool true) := by
  have c1 := read_v hg (s := t1A)
  have c2 := read_v hg (s := t2A)
  have c3 := read_v hg (s := t3A)
  have c4 := read_v hg (s := t4A)
  have c5 := write_v (n := 784111777)
  rw [r1] at c1; rw [r2] at c2; rw [r3] at c3; rw [r4] at c4; rw [w1, w2] at c5
  dsimp only at c1 c2 c3 c4 c5
  refine funG0 tb_ok Try.func12 rfl Try.ntmps12 Try.results12 fun N => ?_
  repeat' (first | refine zt ?_ | (refine isR ?_; first | refine zo ?_ | refine zk c1 ?_ | refine zk c2 ?_ | refine zk c3 ?_ | refine zk c4 ?_ | refine zk c5 ?_ | refine zc5 ?_ | (refine zs5 ?_ ?_ <;> intro hc)) | refine awp_split rfl (fun hb => ?_) (fun hb => ?_) | refine zr ?_ | exact x_le)
  rfl
theorem tells_law {g : Glob} (hg : HasMax g) {s : List UInt8} {n : Int} : ACallsG Try.prog g 3 [strT s, .int .i64 n] (.bool true) := by
  have c0 := begun_v hg
  have c1 := read_v hg (s := s)
  have c2 := write_v (n := n)
  have c3 := stampOf_v (s := s)
  have c4 := stampText_v (n := n)
  generalize readF s = r at *
  generalize textF n = t at *
  generalize teF n = e at *
  refine funG2 tb_ok Try.func3 rfl Try.ntmps3 Try.results3 rfl fun N => ?_
  repeat' (first | refine zt ?_ | (refine isR ?_; first | refine zo ?_ | refine zk c0 ?_ | refine zk c1 ?_ | refine zk c2 ?_ | refine zk c3 ?_ | refine zk c4 ?_ | refine zc5 ?_ | (refine zs5 ?_ ?_ <;> intro hc)) | refine awp_split rfl (fun hb => ?_) (fun hb => ?_) | refine zr ?_ | exact x_le)
  rfl
end Go.Proofs.Ytaojlikkaajpmaa.StampO
namespace Go.Proofs.Ytaojlikkaajpmaa.StampX
open Go.RowKit Mem Abs StampB

def gMax : Glob := ⟨0 + 1, fun h => ∃ m T fr, h 0 = some (.cells #[.int .i64 m] T fr)⟩
theorem hasMax : HasMax gMax := ⟨Nat.lt_succ_self _, fun _h p => p⟩
theorem glob_max {W : World} (hs : W.ShapedOpen Try.prog) : GlOk gMax (fun _ => False) W := by
  obtain ⟨m, hm⟩ := Try.laysM219.s1_3 W hs
  have hm : W.cell? ⟨0, 0, none⟩ = some (.int .i64 m) := hm
  obtain ⟨cs, he, hz, _⟩ := hs.1 0 #[.int .i64 0] _ (of_decide_eq_true (by kernel_rfl)) (show ((begin Try.prog (fun _ _ => 0) default).world.heap[0]?).bind Obj.row? = some (#[Value.int .i64 0], 3) by kernel_rfl)
  have h1 := (Array.getElem?_eq_some_iff.1 he).1
  obtain ⟨l⟩ := cs
  match l, hz with
  | [x], _ =>
    have hx : x = .int .i64 m := by
      have := hm
      unfold World.cell? at this
      simp only [he] at this
      simpa using this
    subst hx
    exact ⟨h1, fun b h => h.elim, m, _, _, (if_pos (Nat.lt_succ_self _)).trans he⟩
end Go.Proofs.Ytaojlikkaajpmaa.StampX
