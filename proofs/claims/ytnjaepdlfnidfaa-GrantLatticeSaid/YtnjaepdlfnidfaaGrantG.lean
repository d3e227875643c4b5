/- The walks of agreed and grantBegun. -/
import Derived.Test.YtnjaepdlfnidfaaGrantE
namespace Go.Proofs.Ytnjaepdlfnidfaa.GrantG
open Go.RowKit Go.Maps Mem Scan GrantP GrantW GrantX GrantY GrantZ GrantM GrantB GrantC GrantD GrantE Facts Glue

theorem ints_of (V : List Int) (h : V.all (fun v => decide (-9223372036854775808 ≤ v ∧ v ≤ 9223372036854775807)) = true) : Ints V := fun v hv => by
  have := List.all_eq_true.1 h v hv
  simp only [decide_eq_true_eq] at this
  exact WalkArith.wf_i64 (by omega)
def pA : Nat → Bool := fun i => i == 0 || i == 3
/-- A call that gives a consent, with these vendors. -/
def GivesC (g : Int) (P : Nat → Bool) (V : List Int) (w : World) (e : Ending) (w' : World) : Prop := ∃ cs, e = .returned (.agg cs) ∧ ConV w' g P V cs ∧ Below w.heap.size w w'
theorem fitA : Fit [2, 3, 4, 9] := ⟨by decide, ints_of _ (by decide)⟩
theorem fitB : Fit [3, 5] := ⟨by decide, ints_of _ (by decide)⟩
theorem row_two (w : World) (o : Obj) (t : TypeId) (vs : List Value) : Row ((w.alloc o).alloc (.cells vs.toArray t)) ((w.alloc o).alloc (.cells vs.toArray t)).heap.size (some ⟨w.heap.size + 1, 0, none⟩) vs := by
  have h := Row.lit (w.alloc o) t vs ((w.alloc o).alloc (.cells vs.toArray t)).heap.size (by simp)
  have e : (some ⟨(w.alloc o).heap.size, 0, none⟩ : Option Addr) = some ⟨w.heap.size + 1, 0, none⟩ := by rw [World.size_alloc]
  rw [e] at h
  exact h
set_option maxRecDepth 100000 in
set_option maxHeartbeats 4000000 in
theorem agreed_any (w : World) : Calls Try.prog 28 #[] w (GivesC 1000 pA [2, 3, 4, 9] w) := by
  go_enter Try.func28, Try.ntmps28
  go_wp2_with fail
  refine bodyPost_ret (v := .agg #[.int .i64 1000, .bool true, .bool false, .bool false, .bool true, .bool false, .bool false, .bool false, .bool false, .bool false, .bool false, .slice (some ⟨w.heap.size + 1, 0, none⟩) 4 4]) (by simp [results, Try.results28, go_sem]) rfl ⟨_, rfl, ⟨fitA, _, _, rfl, ?_⟩, by
    refine (((Below.refl _ w).alloc (Nat.le_refl _) _).alloc (by simp) _)⟩
  exact row_two w _ 3 (intV [2, 3, 4, 9])
def p1 : Nat → Bool := fun i => i == 0
theorem dropA : dropF 1000 pA [2, 3, 4, 9] 4 9 2000 = (2000, fun i => pA i && !((i : Int) + 1 == 4), [2, 3, 4], 0) := by
  have h1 : check 1000 [2, 3, 4, 9] = 0 := by decide +kernel
  unfold dropF
  rw [if_neg (by simp [h1]), if_neg (by omega), if_neg (by omega)]
  rfl
theorem dropB : dropF 1000 pA [2, 3, 4, 9] 0 0 999 = (0, fun _ => false, [], 4) := by
  have h1 : check 1000 [2, 3, 4, 9] = 0 := by decide +kernel
  unfold dropF
  rw [if_neg (by simp [h1]), if_neg (by omega), if_pos (by omega)]
theorem meetB : bothF (· && ·) 1000 5 pA p1 [2, 3, 4, 9] [3, 5] = (1000, fun i => pA i && p1 i, [3], 0) := by
  have h1 : check 1000 [2, 3, 4, 9] = 0 := by decide +kernel
  have h2 : check 5 [3, 5] = 0 := by decide +kernel
  have h3 : (upto fun v => [2, 3, 4, 9].contains v && [3, 5].contains v) = [3] := by decide +kernel
  unfold bothF
  rw [if_neg (by simp [h1]), if_neg (by simp [h2]), h3]
  rfl
theorem joinB : bothF (· || ·) 1000 5 pA p1 [2, 3, 4, 9] [3, 5] = (1000, fun i => pA i || p1 i, [2, 3, 4, 5, 9], 0) := by
  have h1 : check 1000 [2, 3, 4, 9] = 0 := by decide +kernel
  have h2 : check 5 [3, 5] = 0 := by decide +kernel
  have h3 : (upto fun v => [2, 3, 4, 9].contains v || [3, 5].contains v) = [2, 3, 4, 5, 9] := by decide +kernel
  unfold bothF
  rw [if_neg (by simp [h1]), if_neg (by simp [h2]), h3]
  rfl
set_option maxRecDepth 100000 in
set_option maxHeartbeats 16000000 in
theorem grantBegun_any (w : World) : Calls Try.prog 13 #[] w (Gives (.bool true) w) := by
  have CM : ∀ cs cs' w', ConV w' 1000 pA [2, 3, 4, 9] cs → ConV w' 5 p1 [3, 5] cs' → Calls Try.prog 7 #[.agg cs, .agg cs'] w' (Own2 (1000, fun i => pA i && p1 i, [3], 0) w') := fun cs cs' w' h h' => by
    have := meet_con h h'
    rw [meetB] at this; exact this
  have CJ : ∀ cs cs' w', ConV w' 1000 pA [2, 3, 4, 9] cs → ConV w' 5 p1 [3, 5] cs' → Calls Try.prog 8 #[.agg cs, .agg cs'] w' (Own2 (1000, fun i => pA i || p1 i, [2, 3, 4, 5, 9], 0) w') := fun cs cs' w' h h' => by
    have := join_con h h'
    rw [joinB] at this; exact this
  have CM := Lib.hid CM; have CJ := Lib.hid CJ
  go_enter Try.func13, Try.ntmps13
  go_wp2_with fail
  have hb0 : Below w.heap.size w ((w.alloc (.cells #[.int .i64 3, .int .i64 5] 3)).alloc (.cells (conC 5 p1 (.slice (some ⟨w.heap.size, 0, none⟩) 2 2)) 25)) := ((Below.refl _ _).alloc (Nat.le_refl _) _).alloc (by simp) _
  have HB : Home ((w.alloc (.cells #[.int .i64 3, .int .i64 5] 3)).alloc (.cells (conC 5 p1 (.slice (some ⟨w.heap.size, 0, none⟩) 2 2)) 25)) (w.heap.size + 1) 25 (conC 5 p1 (.slice (some ⟨w.heap.size, 0, none⟩) 2 2)) := by
    have := home_new (w.alloc (.cells #[.int .i64 3, .int .i64 5] 3)) 25 (conC 5 p1 (.slice (some ⟨w.heap.size, 0, none⟩) 2 2))
    rw [World.size_alloc] at this
    exact this
  have VB : ConV ((w.alloc (.cells #[.int .i64 3, .int .i64 5] 3)).alloc (.cells (conC 5 p1 (.slice (some ⟨w.heap.size, 0, none⟩) 2 2)) 25)) 5 p1 [3, 5] (conC 5 p1 (.slice (some ⟨w.heap.size, 0, none⟩) 2 2)) :=
    ⟨fitB, _, _, rfl, (Row.lit w 3 (intV [3, 5]) (w.alloc (.cells #[.int .i64 3, .int .i64 5] 3)).heap.size (by simp)).at' (below_new (Below.refl _ _) _)⟩
  change Code.wp _ _ _ _ ((w.alloc (.cells #[.int .i64 3, .int .i64 5] 3)).alloc (.cells (conC 5 p1 (.slice (some ⟨w.heap.size, 0, none⟩) 2 2)) 25))
  generalize (w.alloc (.cells #[.int .i64 3, .int .i64 5] 3)).alloc (.cells (conC 5 p1 (.slice (some ⟨w.heap.size, 0, none⟩) 2 2)) 25) = W0 at HB hb0 VB ⊢
  have hcs : (conC 5 p1 (.slice (some ⟨w.heap.size, 0, none⟩) 2 2)).size = 12 := rfl
  generalize conC 5 p1 (.slice (some ⟨w.heap.size, 0, none⟩) 2 2) = csB at HB VB hcs
  have c28 : ∀ args w, (callFunc 28 args).run Try.prog w = .ok (.enter 28 args) w := enters_of Try.func28 (by kernel_rfl) rfl
  have c7 : ∀ args w, (callFunc 7 args).run Try.prog w = .ok (.enter 7 args) w := enters_of Try.func7 (by kernel_rfl) rfl
  have iI : ∀ w w', Below w.heap.size w w' → Below W0.heap.size W0 w → Below W0.heap.size W0 w' := fun w w' h h' => below_cat h' h
  refine region_facts (I := fun w' => Below W0.heap.size W0 w')
    (F := [val (AggOf fun w cs => ConV w 1000 pA [2, 3, 4, 9] cs), is (.agg csB), val (PairOf (fun w cs => OwnC w 1000 (fun i => pA i && p1 i) [3] cs) 0), val (PairOf (fun w cs => OwnC w 1000 (fun i => pA i && p1 i) [3] cs) 0), val (AggOf fun w cs => OwnC w 1000 (fun i => pA i && p1 i) [3] cs), is (.int .i64 0), val (NewHome W0.heap.size 25), storedAt 6 W0.heap.size 25 (fun w cs => OwnC w 1000 (fun i => pA i && p1 i) [3] cs), is (.int .i64 0)])
    0 [[], [], [], [], [], [], [], [0, 1, 2, 4, 6], []] [[], [], [0, 1], [2], [3], [3], [], [4, 6], [5]] [[1, 6], [0, 6], [0, 1, 6], [0, 1, 2, 6], [0, 1, 2, 3, 5, 6], [0, 1, 2, 3, 4, 6, 7], [0, 1, 2, 3, 4, 5], [3, 5], [0, 1, 2, 3, 4, 5, 6, 7]] [7, 8]
    (by kernel_rfl) (by kernel_rfl) (by kernel_rfl) (allS ⟨sure_agg sureC, sure_is _, sure_pair sureO, sure_pair sureO, sure_agg sureO, sure_is _, sure_new, sure_stored sureO, sure_is _, trivial⟩) (Below.refl _ _).drew (fun _ _ h1 h2 => absurd h1 (Nat.not_le.2 h2))
    ⟨?_, ?_, ?_, ?_, ?_, ?_, ?_, ?_, ?_, trivial⟩ ?_
  · refine st_call rfl iI fun vs w hI _ => ⟨_, _, _, ex_call0 rfl rfl c28, agreed_any _, ?_⟩
    rintro e w' ⟨cs, rfl, hc, hb⟩
    exact ⟨_, rfl, hb, _, rfl, cs, rfl, hc⟩
  · exact st_val rfl fun vs w hI _ => ⟨_, ex_load rfl (by kernel_rfl) (HB.below hI) Try.underlying25 rfl (hcs ▸ infoC), rfl⟩
  · refine st_call rfl iI fun vs w hI ⟨h0, h1, _⟩ => ?_
    obtain ⟨v0, e0, cs, rfl, hc⟩ := h0
    have e0 : vs 0 = .agg cs := List.head_eq_of_cons_eq e0
    have e1 : vs 1 = .agg csB := List.head_eq_of_cons_eq h1
    refine ⟨_, _, _, ex_call2 rfl rfl c7 (Eq.trans (by kernel_rfl) e0) (Eq.trans (by kernel_rfl) e1), CM.out _ _ _ hc (VB.below hI), ?_⟩
    rintro e w' ⟨cs', rfl, ho, hb⟩
    exact ⟨_, rfl, hb, _, rfl, cs', rfl, ho⟩
  · refine st_val rfl fun vs w hI ⟨h0, _⟩ => ⟨_, ex_mv rfl (by kernel_rfl), h0⟩
  · refine st_val rfl fun vs w hI ⟨h0, _⟩ => ?_
    obtain ⟨v0, e0, cs, rfl, hc⟩ := h0
    have e0 : vs 3 = _ := List.head_eq_of_cons_eq e0
    exact ⟨_, ex_extract rfl (Eq.trans (by kernel_rfl) e0) rfl, _, rfl, cs, rfl, hc⟩
  · refine st_val rfl fun vs w hI ⟨h0, _⟩ => ?_
    obtain ⟨v0, e0, cs, rfl, hc⟩ := h0
    have e0 : vs 3 = _ := List.head_eq_of_cons_eq e0
    exact ⟨_, ex_extract rfl (Eq.trans (by kernel_rfl) e0) rfl, rfl⟩
  · refine st_grow rfl iI fun vs w hI _ => ⟨_, _, ex_alloc rfl Try.zeroValue25, (Below.refl _ _).alloc (Nat.le_refl _) _, _, rfl, _, _, rfl, hI.size, home_new _ _ _, rfl⟩
  · refine st_write rfl (by decide) fun vs w hI ⟨h4, h6, _⟩ => ?_
    obtain ⟨v4, e4, cs, rfl, hc⟩ := h4
    obtain ⟨v6, e6, b, zs, rfl, hB, hh, hz⟩ := h6
    have e4 : vs 4 = _ := List.head_eq_of_cons_eq e4
    have e6 : vs 6 = _ := List.head_eq_of_cons_eq e6
    have hs : cs.size = 12 ∧ cs.all (·.oneCell') = true := by exact hc.cells
    refine ⟨_, ex_store rfl (Eq.trans (by kernel_rfl) e6) (Eq.trans (by kernel_rfl) e4) hh (hs.1 ▸ infoC) (hz.trans hs.1.symm) hs.2, ⟨hI.os, hI.tape, hI.output, by simpa using hI.size, fun k hk => (setRow_other _ _ _ _ (by omega)).trans (hI.block k hk)⟩, ⟨_, b, cs, by show [undef, vs 6] = _; rw [e6], hB, home_set hh, hc.set hh⟩, fun us => ⟨?_, ?_, trivial⟩⟩
    · rintro ⟨v, e, cs, e2, hc⟩
      exact ⟨v, e, cs, e2, hc.set hh⟩
    · exact id
  · refine st_val rfl fun vs w hI ⟨h0, _⟩ => ⟨_, ex_as rfl (by kernel_rfl), h0⟩
  rintro vs W1 hI1 ⟨h7, h8, -⟩
  obtain ⟨u, bm, csM, e7, hBm, HM, VM⟩ := h7
  have e2 : vs 6 = .pointer (some ⟨bm, 0, none⟩) := by
    have := List.tail_eq_of_cons_eq e7
    exact List.head_eq_of_cons_eq this
  have e8 : vs 8 = .int .i64 0 := List.head_eq_of_cons_eq h8
  simp only [fill, Act.put, List.setIfInBounds_toArray, List.set_cons_zero, List.set_cons_succ, e2, e8]
  clear e2 e7 e8 h8 u
  generalize vs 0 = y0, vs 1 = y1, vs 2 = y2, vs 3 = y3, vs 4 = y4, vs 5 = y5
  clear vs
  have HB1 := HB.below hI1
  have VB1 := VB.below hI1
  have hb1 := below_cat hb0 hI1
  have c8 : ∀ args w, (callFunc 8 args).run Try.prog w = .ok (.enter 8 args) w := enters_of Try.func8 (by kernel_rfl) rfl
  have iI1 : ∀ w w', Below w.heap.size w w' → Below W1.heap.size W1 w → Below W1.heap.size W1 w' := fun w w' h h' => below_cat h' h
  have HIDE := Lib.hid iI
  clear iI
  simp only [Exit.then]
  go_wp2_with fail
  refine region_facts (I := fun w' => Below W1.heap.size W1 w')
    (F := [val (AggOf fun w cs => ConV w 1000 pA [2, 3, 4, 9] cs), is (.agg csB), val (PairOf (fun w cs => OwnC w 1000 (fun i => pA i || p1 i) [2, 3, 4, 5, 9] cs) 0), val (PairOf (fun w cs => OwnC w 1000 (fun i => pA i || p1 i) [2, 3, 4, 5, 9] cs) 0), val (AggOf fun w cs => OwnC w 1000 (fun i => pA i || p1 i) [2, 3, 4, 5, 9] cs), is (.int .i64 0), val (NewHome W1.heap.size 25), storedAt 6 W1.heap.size 25 (fun w cs => OwnC w 1000 (fun i => pA i || p1 i) [2, 3, 4, 5, 9] cs), is (.int .i64 0)])
    0 [[], [], [], [], [], [], [], [0, 1, 2, 4, 6], []] [[], [], [0, 1], [2], [3], [3], [], [4, 6], [5]] [[1, 6], [0, 6], [0, 1, 6], [0, 1, 2, 6], [0, 1, 2, 3, 5, 6], [0, 1, 2, 3, 4, 6, 7], [0, 1, 2, 3, 4, 5], [3, 5], [0, 1, 2, 3, 4, 5, 6, 7]] [7, 8]
    (by kernel_rfl) (by kernel_rfl) (by kernel_rfl) (allS ⟨sure_agg sureC, sure_is _, sure_pair sureO, sure_pair sureO, sure_agg sureO, sure_is _, sure_new, sure_stored sureO, sure_is _, trivial⟩) (Below.refl _ _).drew (fun _ _ h1 h2 => absurd h1 (Nat.not_le.2 h2))
    ⟨?_, ?_, ?_, ?_, ?_, ?_, ?_, ?_, ?_, trivial⟩ ?_
  · refine st_call rfl iI1 fun vs w hI _ => ⟨_, _, _, ex_call0 rfl rfl c28, agreed_any _, ?_⟩
    rintro e w' ⟨cs, rfl, hc, hb⟩
    exact ⟨_, rfl, hb, _, rfl, cs, rfl, hc⟩
  · exact st_val rfl fun vs w hI _ => ⟨_, ex_load rfl (by kernel_rfl) (HB1.below hI) Try.underlying25 rfl (hcs ▸ infoC), rfl⟩
  · refine st_call rfl iI1 fun vs w hI ⟨h0, h1, _⟩ => ?_
    obtain ⟨v0, e0, cs, rfl, hc⟩ := h0
    have e0 : vs 0 = .agg cs := List.head_eq_of_cons_eq e0
    have e1 : vs 1 = .agg csB := List.head_eq_of_cons_eq h1
    refine ⟨_, _, _, ex_call2 rfl rfl c8 (Eq.trans (by kernel_rfl) e0) (Eq.trans (by kernel_rfl) e1), CJ.out _ _ _ hc (VB1.below hI), ?_⟩
    rintro e w' ⟨cs', rfl, ho, hb⟩
    exact ⟨_, rfl, hb, _, rfl, cs', rfl, ho⟩
  · refine st_val rfl fun vs w hI ⟨h0, _⟩ => ⟨_, ex_mv rfl (by kernel_rfl), h0⟩
  · refine st_val rfl fun vs w hI ⟨h0, _⟩ => ?_
    obtain ⟨v0, e0, cs, rfl, hc⟩ := h0
    have e0 : vs 3 = _ := List.head_eq_of_cons_eq e0
    exact ⟨_, ex_extract rfl (Eq.trans (by kernel_rfl) e0) rfl, _, rfl, cs, rfl, hc⟩
  · refine st_val rfl fun vs w hI ⟨h0, _⟩ => ?_
    obtain ⟨v0, e0, cs, rfl, hc⟩ := h0
    have e0 : vs 3 = _ := List.head_eq_of_cons_eq e0
    exact ⟨_, ex_extract rfl (Eq.trans (by kernel_rfl) e0) rfl, rfl⟩
  · refine st_grow rfl iI1 fun vs w hI _ => ⟨_, _, ex_alloc rfl Try.zeroValue25, (Below.refl _ _).alloc (Nat.le_refl _) _, _, rfl, _, _, rfl, hI.size, home_new _ _ _, rfl⟩
  · refine st_write rfl (by decide) fun vs w hI ⟨h4, h6, _⟩ => ?_
    obtain ⟨v4, e4, cs, rfl, hc⟩ := h4
    obtain ⟨v6, e6, b, zs, rfl, hB, hh, hz⟩ := h6
    have e4 : vs 4 = _ := List.head_eq_of_cons_eq e4
    have e6 : vs 6 = _ := List.head_eq_of_cons_eq e6
    have hs : cs.size = 12 ∧ cs.all (·.oneCell') = true := by exact hc.cells
    refine ⟨_, ex_store rfl (Eq.trans (by kernel_rfl) e6) (Eq.trans (by kernel_rfl) e4) hh (hs.1 ▸ infoC) (hz.trans hs.1.symm) hs.2, ⟨hI.os, hI.tape, hI.output, by simpa using hI.size, fun k hk => (setRow_other _ _ _ _ (by omega)).trans (hI.block k hk)⟩, ⟨_, b, cs, by show [undef, vs 6] = _; rw [e6], hB, home_set hh, hc.set hh⟩, fun us => ⟨?_, ?_, trivial⟩⟩
    · rintro ⟨v, e, cs, e2, hc⟩
      exact ⟨v, e, cs, e2, hc.set hh⟩
    · exact id
  · refine st_val rfl fun vs w hI ⟨h0, _⟩ => ⟨_, ex_as rfl (by kernel_rfl), h0⟩
  rintro vs W2 hI2 ⟨h7, h8, -⟩
  obtain ⟨u, bj, csJ, e7, hBj, HJ, VJ⟩ := h7
  have e2 : vs 6 = .pointer (some ⟨bj, 0, none⟩) := by
    have := List.tail_eq_of_cons_eq e7
    exact List.head_eq_of_cons_eq this
  have e8 : vs 8 = .int .i64 0 := List.head_eq_of_cons_eq h8
  simp only [fill, Act.put, List.setIfInBounds_toArray, List.set_cons_zero, List.set_cons_succ, e2, e8]
  clear e2 e7 e8 h8 u
  generalize vs 0 = y0, vs 1 = y1, vs 2 = y2, vs 3 = y3, vs 4 = y4, vs 5 = y5
  clear vs
  have HB2 := HB1.below hI2
  have VB2 := VB1.below hI2
  have hb2 := below_cat hb1 hI2
  have HM2 := HM.below hI2
  have VM2 := VM.below hI2
  clear HB1 VB1 HB VB HM VM c8 c7 iI1 HIDE hI1 hI2 hb0 hb1
  simp only [Exit.then]
  go_wp2_with fail
  have CD := Lib.hid (fun cs w' (h : ConV w' 1000 pA [2, 3, 4, 9] cs) => (show Calls Try.prog 9 #[.agg cs, .int .i64 4, .int .i64 9, .int .i64 2000] w' (Own2 (2000, fun i => pA i && !((i : Int) + 1 == 4), [2, 3, 4], 0) w') from by
    have := drop_con 4 9 2000 h
    rw [dropA] at this; exact this))
  have CD' := Lib.hid (fun cs w' (h : ConV w' 1000 pA [2, 3, 4, 9] cs) => (show Calls Try.prog 9 #[.agg cs, .int .i64 0, .int .i64 0, .int .i64 999] w' (Own2 (0, fun _ => false, [], 4) w') from by
    have := drop_con 0 0 999 h
    rw [dropB] at this; exact this))
  with_reducible refine (agreed_any _).mono ?_
  rintro e w3 ⟨csA, rfl, VA, b3⟩
  go_wp2_with fail
  with_reducible refine (CD.out _ _ VA).mono ?_
  rintro e w4 ⟨csD, rfl, VD, b4⟩
  have hst := store_new w4 csD VD.cells
  have hst1 := VD.cells.1
  go_wp2_with fail
  clear hst hst1
  have b5 : Below W2.heap.size W2 (w4.alloc (.cells csD 25)) := below_new (below_cat b3 b4) _
  have HD := home_new w4 25 csD
  have VD5 := VD.below (below_new (Below.refl _ w4) (.cells csD 25))
  with_reducible refine (agreed_any _).mono ?_
  rintro e w6 ⟨csA', rfl, VA', b6⟩
  go_wp2_with fail
  with_reducible refine (CD'.out _ _ VA').mono ?_
  rintro e w7 ⟨csE, rfl, VE, b7⟩
  have hst := store_new w7 csE VE.cells
  have hst1 := VE.cells.1
  go_wp2_with fail
  clear hst hst1
  have b9 : Below W2.heap.size W2 (w7.alloc (.cells csE 25)) := below_new (below_cat b5 (below_cat b6 b7)) _
  have b59 := below_new (below_cat b6 b7) (.cells csE 25)
  have HD9 := HD.below b59
  have VD9 := VD5.below b59
  have HM9 := HM2.below b9
  have VM9 := VM2.below b9
  have HJ9 := HJ.below b9
  have VJ9 := VJ.below b9
  have HB9 := HB2.below b9
  have VB9 := VB2.below b9
  have hb9 := below_cat hb2 b9
  clear HD VD5 HM2 VM2 HJ VJ HB2 VB2 b59 b9 b5 b6 b7 b3 b4 hb2 VA VA' VD VE CD CD' CM CJ hcs
  change Code.wp _ _ _ _ (w7.alloc (.cells csE 25))
  obtain ⟨_, Aj, cj, rfl, rowJ⟩ := VJ9.con
  generalize w7.alloc (.cells csE 25) = W9 at HD9 VD9 HM9 VM9 HJ9 rowJ HB9 VB9 hb9 ⊢
  have cJ : ∀ w', Below W9.heap.size W9 w' → w'.cell? ⟨bj, 11, none⟩ = some (.slice Aj 5 cj) := fun w' hS => by
    have h := HJ9.below hS
    have h1 : w'.heap[bj]? = _ := h
    simp only [World.cell?, h1]; rfl
  have CJ := Lib.hid cJ
  clear cJ HJ9
  refine Seq.region_any (S := fun w' => Below W9.heap.size W9 w') [(0, false), (1, false), (2, false), (3, false), (4, false), (5, true), (6, false), (7, true), (8, false), (9, false), (10, false), (11, false), (12, false), (13, false), (14, false), (15, false), (16, true), (17, true), (18, false), (19, false), (20, false), (21, false), (22, false), (23, false), (24, false), (25, false), (26, true), (27, false), (28, true), (29, false), (30, false), (31, false), (32, false), (33, false), (34, false), (35, true), (36, true), (37, false), (38, false), (39, true), (40, true), (41, false), (42, false), (43, false), (44, false), (45, true), (46, false), (47, false), (49, false), (48, true), (50, true), (51, false), (52, false), (53, false)]
    (by kernel_rfl) (by kernel_rfl) (fun _ _ d _ _ h => by cases d <;> exact h) (Below.refl _ _).drew (fun X0 s0 => ?_)
  simp only [Seq.lay, List.getElem?_cons_zero, List.getElem?_cons_succ]
  repeat (first
    | (refine Seq.seq_read (by rfl) (fun w' hS => ex_load rfl (by rfl) (HM9.below hS) Try.underlying25 rfl (VM9.cells.1 ▸ infoC)) ?_; simp only [Act.put, List.setIfInBounds_toArray, List.set_cons_zero, List.set_cons_succ])
    | (refine Seq.seq_read (by rfl) (fun w' hS => ex_load rfl (by rfl) (HD9.below hS) Try.underlying25 rfl (VD9.cells.1 ▸ infoC)) ?_; simp only [Act.put, List.setIfInBounds_toArray, List.set_cons_zero, List.set_cons_succ])
    | (refine Seq.seq_read (by rfl) (fun w' hS => ex_load rfl (by rfl) (HB9.below hS) Try.underlying25 rfl (VB9.cells.1 ▸ infoC)) ?_; simp only [Act.put, List.setIfInBounds_toArray, List.set_cons_zero, List.set_cons_succ])
    | (refine Seq.seq_read (v := ?_) (by rfl) ?_ ?_
       rotate_left
       · (intro w' hS; have cj := CJ.out w' hS; go_simp; with_reducible rfl)
       simp only [Act.put, List.setIfInBounds_toArray, List.set_cons_zero, List.set_cons_succ]))
  refine Seq.seq_do (by rfl) (fun K hK => ?_)
  go_simp
  have r1 : Row (X0.alloc (.cells #[.int .i64 3] 3)) (X0.alloc (.cells #[.int .i64 3] 3)).heap.size (some ⟨X0.heap.size, 0, none⟩) (intV [3]) := Row.lit X0 3 (intV [3]) _ (by simp)
  have s1 := below_new s0 (.cells #[.int .i64 3] 3)
  refine hK _ _ s1 ?_
  clear hK K
  generalize X0.alloc (.cells #[.int .i64 3] 3) = X1 at r1 s1 ⊢
  try simp only [Act.put, List.setIfInBounds_toArray, List.set_cons_zero, List.set_cons_succ]
  repeat (first
    | (refine Seq.seq_read (by rfl) (fun w' hS => ex_load rfl (by rfl) (HM9.below hS) Try.underlying25 rfl (VM9.cells.1 ▸ infoC)) ?_; simp only [Act.put, List.setIfInBounds_toArray, List.set_cons_zero, List.set_cons_succ])
    | (refine Seq.seq_read (by rfl) (fun w' hS => ex_load rfl (by rfl) (HD9.below hS) Try.underlying25 rfl (VD9.cells.1 ▸ infoC)) ?_; simp only [Act.put, List.setIfInBounds_toArray, List.set_cons_zero, List.set_cons_succ])
    | (refine Seq.seq_read (by rfl) (fun w' hS => ex_load rfl (by rfl) (HB9.below hS) Try.underlying25 rfl (VB9.cells.1 ▸ infoC)) ?_; simp only [Act.put, List.setIfInBounds_toArray, List.set_cons_zero, List.set_cons_succ])
    | (refine Seq.seq_read (v := ?_) (by rfl) ?_ ?_
       rotate_left
       · (intro w' hS; have cj := CJ.out w' hS; go_simp; with_reducible rfl)
       simp only [Act.put, List.setIfInBounds_toArray, List.set_cons_zero, List.set_cons_succ]))
  have kA : ConV X1 1000 p1 [3] #[.int .i64 1000, .bool true, .bool false, .bool false, .bool false, .bool false, .bool false, .bool false, .bool false, .bool false, .bool false, .slice (some ⟨X0.heap.size, 0, none⟩) 1 1] := ⟨⟨by decide, ints_of _ (by decide)⟩, _, _, rfl, r1⟩
  have cA := same_con (VM9.below s1).con kA
  rw [show sameC 1000 1000 (fun i => pA i && p1 i) p1 [3] [3] = true from by decide +kernel] at cA
  refine Seq.seq_do (by rfl) (fun K hK => ?_)
  go_simp
  with_reducible refine (cA).mono ?_
  rintro e X2 ⟨rfl, b2⟩
  have s2 := below_cat s1 b2
  refine hK _ _ s2 ?_
  clear hK K
  try simp only [Act.put, List.setIfInBounds_toArray, List.set_cons_zero, List.set_cons_succ]
  repeat (first
    | (refine Seq.seq_read (by rfl) (fun w' hS => ex_load rfl (by rfl) (HM9.below hS) Try.underlying25 rfl (VM9.cells.1 ▸ infoC)) ?_; simp only [Act.put, List.setIfInBounds_toArray, List.set_cons_zero, List.set_cons_succ])
    | (refine Seq.seq_read (by rfl) (fun w' hS => ex_load rfl (by rfl) (HD9.below hS) Try.underlying25 rfl (VD9.cells.1 ▸ infoC)) ?_; simp only [Act.put, List.setIfInBounds_toArray, List.set_cons_zero, List.set_cons_succ])
    | (refine Seq.seq_read (by rfl) (fun w' hS => ex_load rfl (by rfl) (HB9.below hS) Try.underlying25 rfl (VB9.cells.1 ▸ infoC)) ?_; simp only [Act.put, List.setIfInBounds_toArray, List.set_cons_zero, List.set_cons_succ])
    | (refine Seq.seq_read (v := ?_) (by rfl) ?_ ?_
       rotate_left
       · (intro w' hS; have cj := CJ.out w' hS; go_simp; with_reducible rfl)
       simp only [Act.put, List.setIfInBounds_toArray, List.set_cons_zero, List.set_cons_succ]))
  refine Seq.seq_do (by rfl) (fun K hK => ?_)
  go_simp
  have r3 : Row (X2.alloc (.cells #[.int .i64 2, .int .i64 3, .int .i64 4, .int .i64 5, .int .i64 9] 3)) (X2.alloc (.cells #[.int .i64 2, .int .i64 3, .int .i64 4, .int .i64 5, .int .i64 9] 3)).heap.size (some ⟨X2.heap.size, 0, none⟩) (intV [2, 3, 4, 5, 9]) := Row.lit X2 3 (intV [2, 3, 4, 5, 9]) _ (by simp)
  have s3 := below_new s2 (.cells #[.int .i64 2, .int .i64 3, .int .i64 4, .int .i64 5, .int .i64 9] 3)
  refine hK _ _ s3 ?_
  clear hK K
  generalize X2.alloc (.cells #[.int .i64 2, .int .i64 3, .int .i64 4, .int .i64 5, .int .i64 9] 3) = X3 at r3 s3 ⊢
  try simp only [Act.put, List.setIfInBounds_toArray, List.set_cons_zero, List.set_cons_succ]
  have cI : Calls Try.prog 29 #[.slice Aj 5 cj, .slice (some ⟨X2.heap.size, 0, none⟩) 5 5] X3 (Gives (.bool true) X3) := by
    have h := sameInts_any Aj cj [2, 3, 4, 5, 9] (some ⟨X2.heap.size, 0, none⟩) 5 [2, 3, 4, 5, 9] X3 (rowJ.at' s3) r3 (by decide) (by decide)
    rw [show decide (([2, 3, 4, 5, 9] : List Int) = [2, 3, 4, 5, 9]) = true from by decide +kernel] at h
    exact h
  repeat (first
    | (refine Seq.seq_read (by rfl) (fun w' hS => ex_load rfl (by rfl) (HM9.below hS) Try.underlying25 rfl (VM9.cells.1 ▸ infoC)) ?_; simp only [Act.put, List.setIfInBounds_toArray, List.set_cons_zero, List.set_cons_succ])
    | (refine Seq.seq_read (by rfl) (fun w' hS => ex_load rfl (by rfl) (HD9.below hS) Try.underlying25 rfl (VD9.cells.1 ▸ infoC)) ?_; simp only [Act.put, List.setIfInBounds_toArray, List.set_cons_zero, List.set_cons_succ])
    | (refine Seq.seq_read (by rfl) (fun w' hS => ex_load rfl (by rfl) (HB9.below hS) Try.underlying25 rfl (VB9.cells.1 ▸ infoC)) ?_; simp only [Act.put, List.setIfInBounds_toArray, List.set_cons_zero, List.set_cons_succ])
    | (refine Seq.seq_read (v := ?_) (by rfl) ?_ ?_
       rotate_left
       · (intro w' hS; have cj := CJ.out w' hS; go_simp; with_reducible rfl)
       simp only [Act.put, List.setIfInBounds_toArray, List.set_cons_zero, List.set_cons_succ]))
  refine Seq.seq_do (by rfl) (fun K hK => ?_)
  go_simp
  with_reducible refine (cI).mono ?_
  rintro e X4 ⟨rfl, b4⟩
  have s4 := below_cat s3 b4
  refine hK _ _ s4 ?_
  clear hK K
  try simp only [Act.put, List.setIfInBounds_toArray, List.set_cons_zero, List.set_cons_succ]
  repeat (first
    | (refine Seq.seq_read (by rfl) (fun w' hS => ex_load rfl (by rfl) (HM9.below hS) Try.underlying25 rfl (VM9.cells.1 ▸ infoC)) ?_; simp only [Act.put, List.setIfInBounds_toArray, List.set_cons_zero, List.set_cons_succ])
    | (refine Seq.seq_read (by rfl) (fun w' hS => ex_load rfl (by rfl) (HD9.below hS) Try.underlying25 rfl (VD9.cells.1 ▸ infoC)) ?_; simp only [Act.put, List.setIfInBounds_toArray, List.set_cons_zero, List.set_cons_succ])
    | (refine Seq.seq_read (by rfl) (fun w' hS => ex_load rfl (by rfl) (HB9.below hS) Try.underlying25 rfl (VB9.cells.1 ▸ infoC)) ?_; simp only [Act.put, List.setIfInBounds_toArray, List.set_cons_zero, List.set_cons_succ])
    | (refine Seq.seq_read (v := ?_) (by rfl) ?_ ?_
       rotate_left
       · (intro w' hS; have cj := CJ.out w' hS; go_simp; with_reducible rfl)
       simp only [Act.put, List.setIfInBounds_toArray, List.set_cons_zero, List.set_cons_succ]))
  refine Seq.seq_do (by rfl) (fun K hK => ?_)
  go_simp
  have r5 : Row (X4.alloc (.cells #[.int .i64 2, .int .i64 3, .int .i64 4] 3)) (X4.alloc (.cells #[.int .i64 2, .int .i64 3, .int .i64 4] 3)).heap.size (some ⟨X4.heap.size, 0, none⟩) (intV [2, 3, 4]) := Row.lit X4 3 (intV [2, 3, 4]) _ (by simp)
  have s5 := below_new s4 (.cells #[.int .i64 2, .int .i64 3, .int .i64 4] 3)
  refine hK _ _ s5 ?_
  clear hK K
  generalize X4.alloc (.cells #[.int .i64 2, .int .i64 3, .int .i64 4] 3) = X5 at r5 s5 ⊢
  try simp only [Act.put, List.setIfInBounds_toArray, List.set_cons_zero, List.set_cons_succ]
  repeat (first
    | (refine Seq.seq_read (by rfl) (fun w' hS => ex_load rfl (by rfl) (HM9.below hS) Try.underlying25 rfl (VM9.cells.1 ▸ infoC)) ?_; simp only [Act.put, List.setIfInBounds_toArray, List.set_cons_zero, List.set_cons_succ])
    | (refine Seq.seq_read (by rfl) (fun w' hS => ex_load rfl (by rfl) (HD9.below hS) Try.underlying25 rfl (VD9.cells.1 ▸ infoC)) ?_; simp only [Act.put, List.setIfInBounds_toArray, List.set_cons_zero, List.set_cons_succ])
    | (refine Seq.seq_read (by rfl) (fun w' hS => ex_load rfl (by rfl) (HB9.below hS) Try.underlying25 rfl (VB9.cells.1 ▸ infoC)) ?_; simp only [Act.put, List.setIfInBounds_toArray, List.set_cons_zero, List.set_cons_succ])
    | (refine Seq.seq_read (v := ?_) (by rfl) ?_ ?_
       rotate_left
       · (intro w' hS; have cj := CJ.out w' hS; go_simp; with_reducible rfl)
       simp only [Act.put, List.setIfInBounds_toArray, List.set_cons_zero, List.set_cons_succ]))
  have kB : ConV X5 2000 p1 [2, 3, 4] #[.int .i64 2000, .bool true, .bool false, .bool false, .bool false, .bool false, .bool false, .bool false, .bool false, .bool false, .bool false, .slice (some ⟨X4.heap.size, 0, none⟩) 3 3] := ⟨⟨by decide, ints_of _ (by decide)⟩, _, _, rfl, r5⟩
  have cB := same_con (VD9.below s5).con kB
  rw [show sameC 2000 2000 (fun i => pA i && !((i : Int) + 1 == 4)) p1 [2, 3, 4] [2, 3, 4] = true from by decide +kernel] at cB
  refine Seq.seq_do (by rfl) (fun K hK => ?_)
  go_simp
  with_reducible refine (cB).mono ?_
  rintro e X6 ⟨rfl, b6⟩
  have s6 := below_cat s5 b6
  refine hK _ _ s6 ?_
  clear hK K
  try simp only [Act.put, List.setIfInBounds_toArray, List.set_cons_zero, List.set_cons_succ]
  repeat (first
    | (refine Seq.seq_read (by rfl) (fun w' hS => ex_load rfl (by rfl) (HM9.below hS) Try.underlying25 rfl (VM9.cells.1 ▸ infoC)) ?_; simp only [Act.put, List.setIfInBounds_toArray, List.set_cons_zero, List.set_cons_succ])
    | (refine Seq.seq_read (by rfl) (fun w' hS => ex_load rfl (by rfl) (HD9.below hS) Try.underlying25 rfl (VD9.cells.1 ▸ infoC)) ?_; simp only [Act.put, List.setIfInBounds_toArray, List.set_cons_zero, List.set_cons_succ])
    | (refine Seq.seq_read (by rfl) (fun w' hS => ex_load rfl (by rfl) (HB9.below hS) Try.underlying25 rfl (VB9.cells.1 ▸ infoC)) ?_; simp only [Act.put, List.setIfInBounds_toArray, List.set_cons_zero, List.set_cons_succ])
    | (refine Seq.seq_read (v := ?_) (by rfl) ?_ ?_
       rotate_left
       · (intro w' hS; have cj := CJ.out w' hS; go_simp; with_reducible rfl)
       simp only [Act.put, List.setIfInBounds_toArray, List.set_cons_zero, List.set_cons_succ]))
  refine Seq.seq_do (by rfl) (fun K hK => ?_)
  go_simp
  with_reducible refine (agreed_any _).mono ?_
  rintro e X7 ⟨cs1, rfl, Vcs1, b7⟩
  have s7 := below_cat s6 b7
  refine hK _ _ s7 ?_
  clear hK K
  try simp only [Act.put, List.setIfInBounds_toArray, List.set_cons_zero, List.set_cons_succ]
  have cM := may_con 4 9 Vcs1
  rw [show may pA [2, 3, 4, 9] 4 9 = true from by decide +kernel] at cM
  refine Seq.seq_do (by rfl) (fun K hK => ?_)
  go_simp
  with_reducible refine (cM).mono ?_
  rintro e X8 ⟨rfl, b8⟩
  have s8 := below_cat s7 b8
  refine hK _ _ s8 ?_
  clear hK K
  try simp only [Act.put, List.setIfInBounds_toArray, List.set_cons_zero, List.set_cons_succ]
  repeat (first
    | (refine Seq.seq_read (by rfl) (fun w' hS => ex_load rfl (by rfl) (HM9.below hS) Try.underlying25 rfl (VM9.cells.1 ▸ infoC)) ?_; simp only [Act.put, List.setIfInBounds_toArray, List.set_cons_zero, List.set_cons_succ])
    | (refine Seq.seq_read (by rfl) (fun w' hS => ex_load rfl (by rfl) (HD9.below hS) Try.underlying25 rfl (VD9.cells.1 ▸ infoC)) ?_; simp only [Act.put, List.setIfInBounds_toArray, List.set_cons_zero, List.set_cons_succ])
    | (refine Seq.seq_read (by rfl) (fun w' hS => ex_load rfl (by rfl) (HB9.below hS) Try.underlying25 rfl (VB9.cells.1 ▸ infoC)) ?_; simp only [Act.put, List.setIfInBounds_toArray, List.set_cons_zero, List.set_cons_succ])
    | (refine Seq.seq_read (v := ?_) (by rfl) ?_ ?_
       rotate_left
       · (intro w' hS; have cj := CJ.out w' hS; go_simp; with_reducible rfl)
       simp only [Act.put, List.setIfInBounds_toArray, List.set_cons_zero, List.set_cons_succ]))
  refine Seq.seq_do (by rfl) (fun K hK => ?_)
  go_simp
  with_reducible refine (agreed_any _).mono ?_
  rintro e X9 ⟨cs2, rfl, Vcs2, b9⟩
  have s9 := below_cat s8 b9
  refine hK _ _ s9 ?_
  clear hK K
  try simp only [Act.put, List.setIfInBounds_toArray, List.set_cons_zero, List.set_cons_succ]
  have cN := may_con 2 0 Vcs2
  rw [show may pA [2, 3, 4, 9] 2 0 = false from by decide +kernel] at cN
  refine Seq.seq_do (by rfl) (fun K hK => ?_)
  go_simp
  with_reducible refine (cN).mono ?_
  rintro e X10 ⟨rfl, b10⟩
  have s10 := below_cat s9 b10
  refine hK _ _ s10 ?_
  clear hK K
  try simp only [Act.put, List.setIfInBounds_toArray, List.set_cons_zero, List.set_cons_succ]
  repeat (first
    | (refine Seq.seq_read (by rfl) (fun w' hS => ex_load rfl (by rfl) (HM9.below hS) Try.underlying25 rfl (VM9.cells.1 ▸ infoC)) ?_; simp only [Act.put, List.setIfInBounds_toArray, List.set_cons_zero, List.set_cons_succ])
    | (refine Seq.seq_read (by rfl) (fun w' hS => ex_load rfl (by rfl) (HD9.below hS) Try.underlying25 rfl (VD9.cells.1 ▸ infoC)) ?_; simp only [Act.put, List.setIfInBounds_toArray, List.set_cons_zero, List.set_cons_succ])
    | (refine Seq.seq_read (by rfl) (fun w' hS => ex_load rfl (by rfl) (HB9.below hS) Try.underlying25 rfl (VB9.cells.1 ▸ infoC)) ?_; simp only [Act.put, List.setIfInBounds_toArray, List.set_cons_zero, List.set_cons_succ])
    | (refine Seq.seq_read (v := ?_) (by rfl) ?_ ?_
       rotate_left
       · (intro w' hS; have cj := CJ.out w' hS; go_simp; with_reducible rfl)
       simp only [Act.put, List.setIfInBounds_toArray, List.set_cons_zero, List.set_cons_succ]))
  have kZ : ConV X10 0 (fun _ => false) [] #[.int .i64 0, .bool false, .bool false, .bool false, .bool false, .bool false, .bool false, .bool false, .bool false, .bool false, .bool false, .slice none 0 0] := ⟨fit_nil, _, _, rfl, Row.nil _ _ _⟩
  have cZ := may_con 0 0 kZ
  rw [show may (fun _ => false) [] 0 0 = true from by decide +kernel] at cZ
  refine Seq.seq_do (by rfl) (fun K hK => ?_)
  go_simp
  with_reducible refine (cZ).mono ?_
  rintro e X11 ⟨rfl, b11⟩
  have s11 := below_cat s10 b11
  refine hK _ _ s11 ?_
  clear hK K
  try simp only [Act.put, List.setIfInBounds_toArray, List.set_cons_zero, List.set_cons_succ]
  repeat (first
    | (refine Seq.seq_read (by rfl) (fun w' hS => ex_load rfl (by rfl) (HM9.below hS) Try.underlying25 rfl (VM9.cells.1 ▸ infoC)) ?_; simp only [Act.put, List.setIfInBounds_toArray, List.set_cons_zero, List.set_cons_succ])
    | (refine Seq.seq_read (by rfl) (fun w' hS => ex_load rfl (by rfl) (HD9.below hS) Try.underlying25 rfl (VD9.cells.1 ▸ infoC)) ?_; simp only [Act.put, List.setIfInBounds_toArray, List.set_cons_zero, List.set_cons_succ])
    | (refine Seq.seq_read (by rfl) (fun w' hS => ex_load rfl (by rfl) (HB9.below hS) Try.underlying25 rfl (VB9.cells.1 ▸ infoC)) ?_; simp only [Act.put, List.setIfInBounds_toArray, List.set_cons_zero, List.set_cons_succ])
    | (refine Seq.seq_read (v := ?_) (by rfl) ?_ ?_
       rotate_left
       · (intro w' hS; have cj := CJ.out w' hS; go_simp; with_reducible rfl)
       simp only [Act.put, List.setIfInBounds_toArray, List.set_cons_zero, List.set_cons_succ]))
  refine Seq.seq_do (by rfl) (fun K hK => ?_)
  go_simp
  with_reducible refine (agreed_any _).mono ?_
  rintro e X12 ⟨cs3, rfl, Vcs3, b12⟩
  have s12 := below_cat s11 b12
  refine hK _ _ s12 ?_
  clear hK K
  try simp only [Act.put, List.setIfInBounds_toArray, List.set_cons_zero, List.set_cons_succ]
  have cL := less_con Vcs3 (VB9.below s12)
  rw [show less pA p1 [2, 3, 4, 9] [3, 5] = false from by decide +kernel] at cL
  refine Seq.seq_do (by rfl) (fun K hK => ?_)
  go_simp
  with_reducible refine (cL).mono ?_
  rintro e X13 ⟨rfl, b13⟩
  have s13 := below_cat s12 b13
  refine hK _ _ s13 ?_
  clear hK K
  try simp only [Act.put, List.setIfInBounds_toArray, List.set_cons_zero, List.set_cons_succ]
  repeat (first
    | (refine Seq.seq_read (by rfl) (fun w' hS => ex_load rfl (by rfl) (HM9.below hS) Try.underlying25 rfl (VM9.cells.1 ▸ infoC)) ?_; simp only [Act.put, List.setIfInBounds_toArray, List.set_cons_zero, List.set_cons_succ])
    | (refine Seq.seq_read (by rfl) (fun w' hS => ex_load rfl (by rfl) (HD9.below hS) Try.underlying25 rfl (VD9.cells.1 ▸ infoC)) ?_; simp only [Act.put, List.setIfInBounds_toArray, List.set_cons_zero, List.set_cons_succ])
    | (refine Seq.seq_read (by rfl) (fun w' hS => ex_load rfl (by rfl) (HB9.below hS) Try.underlying25 rfl (VB9.cells.1 ▸ infoC)) ?_; simp only [Act.put, List.setIfInBounds_toArray, List.set_cons_zero, List.set_cons_succ])
    | (refine Seq.seq_read (v := ?_) (by rfl) ?_ ?_
       rotate_left
       · (intro w' hS; have cj := CJ.out w' hS; go_simp; with_reducible rfl)
       simp only [Act.put, List.setIfInBounds_toArray, List.set_cons_zero, List.set_cons_succ]))
  refine Seq.seq_nil ?_
  simp only [Exit.then]
  go_wp2_with fail
  go_ret
  exact ⟨rfl, below_cat hb9 s13⟩
end Go.Proofs.Ytnjaepdlfnidfaa.GrantG
