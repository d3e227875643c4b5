/- The walks of clock.Of and of the reference's MomentOf. -/
import Derived.Test.YtaojlikkaajpmaaClockW
import Derived.LoopTactic
namespace Go.Proofs.Ytaojlikkaajpmaa.ClockO
open Go.RowKit ClockP ClockW

theorem bcell {B : Nat} {W w1 : World} (hb : Below B W w1) : (∀ b o, b < B → w1.cell? ⟨b, o, none⟩ = W.cell? ⟨b, o, none⟩) ∧ (∀ b o, b < B → w1.frozen? ⟨b, o, none⟩ = W.frozen? ⟨b, o, none⟩) :=
  ⟨fun b o h => hb.cell (p := ⟨b, o, none⟩) h, fun b o h => hb.frozen (p := ⟨b, o, none⟩) h⟩

/-- What clock.Of answers. -/
def OfAns (y m d h mi s : Int) (v : Value) : Prop := (right y m d h mi s ∧ v = .tuple #[.int .i64 (mom y m d h mi s), .int .i64 0]) ∨ (¬ right y m d h mi s ∧ v = .tuple #[.int .i64 0, .int .i64 3])
def OfPost (y m d h mi s : Int) (w : World) (e : Ending) (w' : World) : Prop := ∃ v, e = .returned v ∧ OfAns y m d h mi s v ∧ Below w.heap.size w w'
/-- The first k of the five bounds hold. -/
def Good (y m d h mi s : Int) (k : Nat) : Prop := (0 < k → 1601 ≤ y ∧ y ≤ 9999) ∧ (1 < k → 1 ≤ d ∧ d ≤ mlen y m) ∧ (2 < k → 0 ≤ h ∧ h ≤ 23) ∧ (3 < k → 0 ≤ mi ∧ mi ≤ 59) ∧ (4 < k → 0 ≤ s ∧ s ≤ 59)
theorem good_right {y m d h mi s : Int} (g : Good y m d h mi s 5) : right y m d h mi s := by
  obtain ⟨a, b, c, e, f⟩ := g
  have := a (by omega); have := b (by omega); have := c (by omega); have := e (by omega); have := f (by omega)
  exact ⟨⟨by omega, by omega, by omega, by omega⟩, by omega, by omega, by omega, by omega, by omega, by omega⟩
theorem no_ans {y m d h mi s : Int} {w w' : World} (g : ¬ right y m d h mi s) (hb : Below w.heap.size w w') : OfPost y m d h mi s w (.returned (.tuple #[.int .i64 0, .int .i64 3])) w' := ⟨_, rfl, .inr ⟨g, rfl⟩, hb⟩

theorem good_next0 {y m d h mi s : Int} (g : Good y m d h mi s 0) (h2 : 1601 ≤ y ∧ y ≤ 9999) : Good y m d h mi s 1 := by
  obtain ⟨a, b, c, e, f⟩ := g
  exact ⟨fun _ => h2, fun h => by omega, fun h => by omega, fun h => by omega, fun h => by omega⟩
theorem bad0 {y m d h mi s : Int} (h2 : ¬ (1601 ≤ y ∧ y ≤ 9999)) : ¬ right y m d h mi s := fun hr => h2 ⟨hr.1.1, hr.1.2.1⟩
theorem good_next1 {y m d h mi s : Int} (g : Good y m d h mi s 1) (h2 : 1 ≤ d ∧ d ≤ mlen y m) : Good y m d h mi s 2 := by
  obtain ⟨a, b, c, e, f⟩ := g
  exact ⟨fun _ => a (by omega), fun _ => h2, fun h => by omega, fun h => by omega, fun h => by omega⟩
theorem bad1 {y m d h mi s : Int} (h2 : ¬ (1 ≤ d ∧ d ≤ mlen y m)) : ¬ right y m d h mi s := fun hr => h2 ⟨hr.1.2.2.1, hr.1.2.2.2⟩
theorem good_next2 {y m d h mi s : Int} (g : Good y m d h mi s 2) (h2 : 0 ≤ h ∧ h ≤ 23) : Good y m d h mi s 3 := by
  obtain ⟨a, b, c, e, f⟩ := g
  exact ⟨fun _ => a (by omega), fun _ => b (by omega), fun _ => h2, fun h => by omega, fun h => by omega⟩
theorem bad2 {y m d h mi s : Int} (h2 : ¬ (0 ≤ h ∧ h ≤ 23)) : ¬ right y m d h mi s := fun hr => h2 ⟨hr.2.1, hr.2.2.1⟩
theorem good_next3 {y m d h mi s : Int} (g : Good y m d h mi s 3) (h2 : 0 ≤ mi ∧ mi ≤ 59) : Good y m d h mi s 4 := by
  obtain ⟨a, b, c, e, f⟩ := g
  exact ⟨fun _ => a (by omega), fun _ => b (by omega), fun _ => c (by omega), fun _ => h2, fun h => by omega⟩
theorem bad3 {y m d h mi s : Int} (h2 : ¬ (0 ≤ mi ∧ mi ≤ 59)) : ¬ right y m d h mi s := fun hr => h2 ⟨hr.2.2.2.1, hr.2.2.2.2.1⟩
theorem good_next4 {y m d h mi s : Int} (g : Good y m d h mi s 4) (h2 : 0 ≤ s ∧ s ≤ 59) : Good y m d h mi s 5 := by
  obtain ⟨a, b, c, e, f⟩ := g
  exact ⟨fun _ => a (by omega), fun _ => b (by omega), fun _ => c (by omega), fun _ => e (by omega), fun _ => h2⟩
theorem bad4 {y m d h mi s : Int} (h2 : ¬ (0 ≤ s ∧ s ≤ 59)) : ¬ right y m d h mi s := fun hr => h2 ⟨hr.2.2.2.2.2.1, hr.2.2.2.2.2.2⟩
theorem below_up {w wr : World} {o : Obj} (hb : Below (w.heap.size + 1) (w.alloc o) wr) : Below w.heap.size w wr := ((Below.refl _ _).alloc (Nat.le_refl _) _).trans (hb.mono (by omega))
theorem num_1 (y d : Int) : num y 1 d = dby y + d - 1 := by unfold num; rw [cum_1 y 1 (by omega)]; omega
theorem num_succ (y k d : Int) (h : 1 ≤ k) (h2 : k ≤ 12) : num y (k + 1) d = num y k d + mlen y k := by unfold num; rw [cum_succ y k h h2]; omega
/-- The sizes of what is reckoned. -/
theorem num_in {y m d h mi s : Int} (hr : right y m d h mi s) : 1 ≤ y ∧ y ≤ 20000 ∧ 1 ≤ m ∧ m ≤ 12 ∧ -134774 ≤ dby y ∧ dby y ≤ 2932897 := by
  have hm := vld_m hr.1
  have a := dby_mono 1601 y hr.1.1
  have b := dby_mono y 10000 (by have := hr.1.2.1; omega)
  rw [dby_first] at a; rw [dby_last] at b
  have := hr.1.1; have := hr.1.2.1
  omega

set_option maxHeartbeats 2000000 in
theorem of_any (y m d h mi s : Int) (w : World) :
    Calls Try.prog 25 #[.agg #[.int .i64 y, .int .i64 m, .int .i64 d, .int .i64 h, .int .i64 mi, .int .i64 s]] w (OfPost y m d h mi s w) := by
  have ix0 : ∀ (x0 x1 x2 x3 x4 x5 x6 x7 x8 x9 x10 x11 x12 x13 x14 : Value) (W : World), (Instr.index 101 (.agg #[x0, x1, x2, x3, x4, x5, x6, x7, x8, x9, x10, x11, x12, x13, x14]) (.int .i64 0)).run Try.prog W = .ok (.agg #[x0, x1, x2]) W := fun _ _ _ _ _ _ _ _ _ _ _ _ _ _ _ _ => by kernel_rfl
  have ix1 : ∀ (x0 x1 x2 x3 x4 x5 x6 x7 x8 x9 x10 x11 x12 x13 x14 : Value) (W : World), (Instr.index 101 (.agg #[x0, x1, x2, x3, x4, x5, x6, x7, x8, x9, x10, x11, x12, x13, x14]) (.int .i64 1)).run Try.prog W = .ok (.agg #[x3, x4, x5]) W := fun _ _ _ _ _ _ _ _ _ _ _ _ _ _ _ _ => by kernel_rfl
  have ix2 : ∀ (x0 x1 x2 x3 x4 x5 x6 x7 x8 x9 x10 x11 x12 x13 x14 : Value) (W : World), (Instr.index 101 (.agg #[x0, x1, x2, x3, x4, x5, x6, x7, x8, x9, x10, x11, x12, x13, x14]) (.int .i64 2)).run Try.prog W = .ok (.agg #[x6, x7, x8]) W := fun _ _ _ _ _ _ _ _ _ _ _ _ _ _ _ _ => by kernel_rfl
  have ix3 : ∀ (x0 x1 x2 x3 x4 x5 x6 x7 x8 x9 x10 x11 x12 x13 x14 : Value) (W : World), (Instr.index 101 (.agg #[x0, x1, x2, x3, x4, x5, x6, x7, x8, x9, x10, x11, x12, x13, x14]) (.int .i64 3)).run Try.prog W = .ok (.agg #[x9, x10, x11]) W := fun _ _ _ _ _ _ _ _ _ _ _ _ _ _ _ _ => by kernel_rfl
  have ix4 : ∀ (x0 x1 x2 x3 x4 x5 x6 x7 x8 x9 x10 x11 x12 x13 x14 : Value) (W : World), (Instr.index 101 (.agg #[x0, x1, x2, x3, x4, x5, x6, x7, x8, x9, x10, x11, x12, x13, x14]) (.int .i64 4)).run Try.prog W = .ok (.agg #[x12, x13, x14]) W := fun _ _ _ _ _ _ _ _ _ _ _ _ _ _ _ _ => by kernel_rfl
  go_enter Try.func25, Try.ntmps25
  go_wp2_with fail
  go_quiet ((go_at_call 55; exact Calls.quiet_of_same ((length_any _ _ _).mono (fun _ _ ⟨a, b⟩ => ⟨a, b.symm⟩))))
  go_wp2_with fail
  go_loopw [29] (fun i wr => ∃ k : Nat, k ≤ 5 ∧ i = .int .i64 k ∧ Good y m d h mi s k ∧ Below (w.heap.size + 1) (w.alloc (.cells #[.int .i64 y, .int .i64 m, .int .i64 d, .int .i64 h, .int .i64 mi, .int .i64 s] 47)) wr) (fun i _ => 5 - (intOf i).toNat)
  case atStart => exact ⟨0, by omega, rfl, ⟨by omega, by omega, by omega, by omega, by omega⟩, ⟨rfl, rfl, rfl, by simp, fun _ _ => rfl⟩⟩
  case round =>
    obtain ⟨k, hk, rfl, hg, hb⟩ := hrel
    obtain ⟨hc, hf⟩ := bcell hb
    have hsz : w.heap.size + 1 ≤ wr.heap.size := by have := hb.size; simpa using this
    have G := Lib.hid hg
    have hcase : k = 0 ∨ k = 1 ∨ k = 2 ∨ k = 3 ∨ k = 4 ∨ k = 5 := by omega
    clear hg hk
    rcases hcase with rfl | rfl | rfl | rfl | rfl | rfl
    · by_cases hgood : 1601 ≤ y ∧ y ≤ 9999
      · have hg1 : Good y m d h mi s 1 := good_next0 G.out hgood
        have G1 := Lib.hid hg1; clear hg1
        obtain ⟨hgl, hgr⟩ := hgood
        go_wp2_with fail
        go_roundw
        case rel => exact ⟨1, by omega, rfl, G1.out, hb.alloc hsz _⟩
        case measure => simp [intOf]
      · have hno : ¬ right y m d h mi s := bad0 hgood
        have NO := Lib.hid hno; clear hno
        by_cases hlo : 1601 ≤ y
        all_goals
          go_wp2_with fail
          go_ret2
          exact no_ans NO.out (below_up (hb.alloc hsz _))
    · by_cases hgood : 1 ≤ d ∧ d ≤ mlen y m
      · have hg1 : Good y m d h mi s 2 := good_next1 G.out hgood
        have G1 := Lib.hid hg1; clear hg1
        obtain ⟨hgl, hgr⟩ := hgood
        go_wp2_with fail
        go_roundw
        case rel => exact ⟨2, by omega, rfl, G1.out, hb.alloc hsz _⟩
        case measure => simp [intOf]
      · have hno : ¬ right y m d h mi s := bad1 hgood
        have NO := Lib.hid hno; clear hno
        by_cases hlo : 1 ≤ d
        all_goals
          go_wp2_with fail
          go_ret2
          exact no_ans NO.out (below_up (hb.alloc hsz _))
    · by_cases hgood : 0 ≤ h ∧ h ≤ 23
      · have hg1 : Good y m d h mi s 3 := good_next2 G.out hgood
        have G1 := Lib.hid hg1; clear hg1
        obtain ⟨hgl, hgr⟩ := hgood
        go_wp2_with fail
        go_roundw
        case rel => exact ⟨3, by omega, rfl, G1.out, hb.alloc hsz _⟩
        case measure => simp [intOf]
      · have hno : ¬ right y m d h mi s := bad2 hgood
        have NO := Lib.hid hno; clear hno
        by_cases hlo : 0 ≤ h
        all_goals
          go_wp2_with fail
          go_ret2
          exact no_ans NO.out (below_up (hb.alloc hsz _))
    · by_cases hgood : 0 ≤ mi ∧ mi ≤ 59
      · have hg1 : Good y m d h mi s 4 := good_next3 G.out hgood
        have G1 := Lib.hid hg1; clear hg1
        obtain ⟨hgl, hgr⟩ := hgood
        go_wp2_with fail
        go_roundw
        case rel => exact ⟨4, by omega, rfl, G1.out, hb.alloc hsz _⟩
        case measure => simp [intOf]
      · have hno : ¬ right y m d h mi s := bad3 hgood
        have NO := Lib.hid hno; clear hno
        by_cases hlo : 0 ≤ mi
        all_goals
          go_wp2_with fail
          go_ret2
          exact no_ans NO.out (below_up (hb.alloc hsz _))
    · by_cases hgood : 0 ≤ s ∧ s ≤ 59
      · have hg1 : Good y m d h mi s 5 := good_next4 G.out hgood
        have G1 := Lib.hid hg1; clear hg1
        obtain ⟨hgl, hgr⟩ := hgood
        go_wp2_with fail
        go_roundw
        case rel => exact ⟨5, by omega, rfl, G1.out, hb.alloc hsz _⟩
        case measure => simp [intOf]
      · have hno : ¬ right y m d h mi s := bad4 hgood
        have NO := Lib.hid hno; clear hno
        by_cases hlo : 0 ≤ s
        all_goals
          go_wp2_with fail
          go_ret2
          exact no_ans NO.out (below_up (hb.alloc hsz _))
    · have hr := good_right G.out
      obtain ⟨e1, e2, e3, e4, e5, e6⟩ := num_in hr
      have e7 : 1 ≤ d ∧ d ≤ 31 := by have := mlen_bd y m; have := hr.1.2.2; omega
      have e8 : 0 ≤ h ∧ h ≤ 23 ∧ 0 ≤ mi ∧ mi ≤ 59 ∧ 0 ≤ s ∧ s ≤ 59 := by obtain ⟨_, h⟩ := hr; omega
      have HR := Lib.hid hr; clear hr
      obtain ⟨wo, rfl⟩ : ∃ wo : World, wo = wr := ⟨_, rfl⟩
      go_wp2_with fail
      go_quiet ((go_at_call 56; exact Calls.quiet_of_same ((daysTo_any _ _ e1 e2).mono (fun _ _ ⟨a, b⟩ => ⟨a, b.symm⟩))))
      go_wp2_with fail
      go_loopw [6, 7] (fun t i wr => ∃ k : Int, 1 ≤ k ∧ k ≤ m ∧ i = .int .i64 k ∧ t = .int .i64 (num y k d) ∧ Below (w.heap.size + 1) (w.alloc (.cells #[.int .i64 y, .int .i64 m, .int .i64 d, .int .i64 h, .int .i64 mi, .int .i64 s] 47)) wr) (fun _ i _ => (m - intOf i).toNat)
      case atStart => exact ⟨1, by omega, by omega, rfl, by rw [num_1], ⟨hb.os, hb.tape, hb.output, hb.size, hb.block⟩⟩
      case round =>
        obtain ⟨k, hk1, hk2, rfl, rfl, hb2⟩ := hrel
        obtain ⟨hc2, hf2⟩ := bcell hb2
        have hsz2 : w.heap.size + 1 ≤ wr.heap.size := by have := hb2.size; simpa using this
        have n1 : -134774 ≤ num y k d ∧ num y k d ≤ 2934000 := by have := cum_bd y k (by omega); unfold num; omega
        have n2 := num_succ y k d hk1 (by omega)
        have n3 := mlen_bd y k
        have N2 := Lib.hid n2; clear n2
        clear hc hf
        by_cases hlt : k < m
        · go_wp2_with (go_at_call 55; refine (length_any _ _ _).mono ?_; rintro e w' ⟨rfl, rfl⟩)
          go_roundw
          case rel =>
            repeat apply Exists.intro
            exact ⟨⟨k + 1, by omega, by omega, rfl, by rw [N2.out], hb2⟩, rfl⟩
          case measure => simp [intOf]; omega
        · obtain rfl : k = m := by omega
          go_wp2_with fail
          go_ret2
          exact ⟨_, rfl, .inl ⟨HR.out, rfl⟩, below_up hb2⟩

def NmB (n : Int) : Bool := !isB n
set_option maxHeartbeats 400000 in
theorem noMoment_any (n : Int) (w : World) :
    Calls Try.prog 64 #[.int .i64 n] w fun e w' => e = .returned (.bool (NmB n)) ∧ w = w' := by
  unfold NmB isB
  by_cases h1 : -11644473600 ≤ n <;> by_cases h2 : n ≤ 253402300799
  all_goals
    go_enter Try.func64, Try.ntmps64
    go_wp2
    go_ret
    exact ⟨by simp [h1, h2], rfl⟩
set_option maxHeartbeats 400000 in
theorem weekdayOf_yes (n : Int) (w : World) (h1 : -11644473600 ≤ n) (h2 : n ≤ 253402300799) :
    Calls Try.prog 35 #[.int .i64 n] w fun e w' => e = .returned (.tuple #[.int .i64 ((n / 86400 + 4) % 7), .int .i64 0]) ∧ w = w' := by
  have hb : NmB n = false := by unfold NmB isB; simp; omega
  go_enter Try.func35, Try.ntmps35
  go_wp2_with (go_at_call 64; refine (noMoment_any _ _).mono ?_; rintro e w' ⟨rfl, rfl⟩)
  go_ret2
  exact ⟨ret_two (by show _ = (n / 86400 + 4) % 7; go_light; omega) rfl, rfl⟩
theorem weekdayOf_no (n : Int) (w : World) (h : NmB n = true) :
    Calls Try.prog 35 #[.int .i64 n] w fun e w' => e = .returned (.tuple #[.int .i64 0, .int .i64 3]) ∧ w = w' := by
  go_enter Try.func35, Try.ntmps35
  go_wp2_with (go_at_call 64; refine (noMoment_any _ _).mono ?_; rintro e w' ⟨rfl, rfl⟩)
  go_ret2
  exact ⟨rfl, rfl⟩
end Go.Proofs.Ytaojlikkaajpmaa.ClockO
