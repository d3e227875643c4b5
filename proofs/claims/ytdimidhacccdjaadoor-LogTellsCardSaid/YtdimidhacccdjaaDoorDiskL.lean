/- Disks: the laws. -/
import Derived.Test.YtdimidhacccdjaaDoorDiskF
namespace Go.Proofs.YtdimidhacccdjaaDoor.DiskL
open Go.RowKit Mem Abs TreeW Globs SplT Both NumP WordS DiskP FnS DiskA DiskB DiskC DiskD DiskE DiskF

theorem landF_same {l1 l2 : Nat → Bool} : ∀ (W : List Put) (i : Nat) (K : List (List UInt8)), (∀ j, j < i + W.length → l1 j = l2 j) → landF l1 i W K = landF l2 i W K
  | [], _, _, _ => rfl
  | w :: r, i, K, h => by
    unfold landF
    rw [h i (by simp), landF_same r (i + 1) _ fun j hj => h j (by simp only [List.length_cons]; omega)]
theorem crashF_same {d : Disk} {l1 l2 : Nat → Bool} (h : ∀ j, j < 60 → l1 j = l2 j) : crashF d l1 = crashF d l2 := by
  unfold crashF
  by_cases h0 : checkF d = 0
  · obtain ⟨_, h1, _⟩ := check_ok.1 h0
    rw [if_neg (by simpa using h0), if_neg (by simpa using h0), landF_same d.wait 0 d.kept fun j hj => h j (by omega)]
  · rw [if_pos h0, if_pos h0]
theorem all_bits : ∀ j, j < 60 → (fun _ => true) j = bitF 18446744073709551615 j := fun j hj => by
  have : ∀ j : Fin 60, true = bitF 18446744073709551615 j.val := by decide
  exact this ⟨j, hj⟩
set_option maxRecDepth 100000 in
set_option maxHeartbeats 4000000 in
theorem tells_law {d : Disk} {p m : Int} {s : List UInt8} (hm : InR .u64 m) : ACallsG Tryd.prog gBoth 3 [d.v, .int .i64 p, strT s, .int .u64 m] (.bool true) := by
  obtain ⟨m, rfl⟩ : ∃ k : Nat, m = (k : Int) := ⟨m.toNat, by have := hm.1; simp only [rng] at this; omega⟩
  have hm : m < 18446744073709551616 := by have := hm.2; simp only [rng] at this; omega
  have c0 := begun_v
  have c1 := write_v (d := d) (p := p) (s := s)
  have c2 := flush_v (d := d)
  have c3 := crash_v (d := d) hm
  have c4 := writeOf_v (d := d) (p := p) (s := s)
  have c5 : ACalls Tryd.prog 11 [d.v, .int .u64 18446744073709551615] (.tup [(crashF d fun _ => true).1.v, .int .i64 (crashF d fun _ => true).2]) := by
    have := crashOf_v (d := d) (m := 18446744073709551615) (by decide)
    rw [← crashF_same all_bits] at this
    exact this
  have c6 := crashOf_v (d := d) hm
  have c7 := check_v (d := d)
  have c8 := dcheck_v (d := d)
  have c9 := sameDisk_v (d := (writeF d p s).1)
  have c10 := sameDisk_v (d := (crashF d fun _ => true).1)
  have c11 := sameDisk_v (d := (crashF d (bitF m)).1)
  generalize writeF d p s = A at *
  generalize (crashF d fun _ => true) = B at *
  generalize crashF d (bitF m) = C at *
  generalize checkF d = e at *
  obtain ⟨⟨K1, W1⟩, e1⟩ := A
  obtain ⟨⟨K2, W2⟩, e2⟩ := B
  obtain ⟨⟨K3, W3⟩, e3⟩ := C
  obtain ⟨K, W⟩ := d
  dsimp only [Disk.v] at *
  refine funG4 tb_ok Tryd.func3 rfl Tryd.ntmps3 Tryd.results3 rfl fun N => ?_
  repeat' (first
      | with_reducible first | refine awp_seq ?_ | refine awp_region ?_ | refine awp_draw mixed ?_ | refine then_n ?_ | refine awp_skip ?_ | refine awp_block ?_ | refine awp_exit ?_ | refine awp_ret ?_ | refine awp_label ?_ | refine then_exit ?_ | refine then_ret ?_ | refine blk_n ?_ | refine blk_ret ?_ | refine blk_exit ?_ | refine blk_other rfl ?_ | refine then_k ?_
      | refine awp_true rfl ?_
      | refine awp_false rfl ?_
      | refine awp_split rfl (fun hb => ?_) (fun hb => ?_)
      | (refine isR ?_; first | refine x_far [] tb_ok rfl ?_ | refine r_nil ?_ | refine r_nild (by kernel_rfl) ?_ | refine x_call (c0 _) ?_ | refine x_call (c0) ?_ | refine x_call (c1 _) ?_ | refine x_call (c1) ?_ | refine x_call (c2 _) ?_ | refine x_call (c2) ?_ | refine x_call (c3 _) ?_ | refine x_call (c3) ?_ | refine x_call (c4 _) ?_ | refine x_call (c4) ?_ | refine x_call (c5 _) ?_ | refine x_call (c5) ?_ | refine x_call (c6 _) ?_ | refine x_call (c6) ?_ | refine x_call (c7 _) ?_ | refine x_call (c7) ?_ | refine x_call (c8 _) ?_ | refine x_call (c8) ?_ | refine x_call (c9 _) ?_ | refine x_call (c9) ?_ | refine x_call (c10 _) ?_ | refine x_call (c10) ?_ | refine x_call (c11 _) ?_ | refine x_call (c11) ?_ | refine x_eqlT ?_ | refine x_eqlF ?_ | refine x_eql (fun hc => ?_) (fun hc => ?_) | refine x_eqlB ?_ | refine x_eqlST ?_ | refine x_eqlSF ?_ | refine x_eqlS (fun hc => ?_) (fun hc => ?_) | refine x_eqlI ?_ | refine x_eqlN ?_ | refine x_eqlA tb_ok ?_ | refine x_eqlAS tb_ok (fun hc => ?_) (fun hc => ?_))
      | refine x_ret ?_
      | refine x_nor ?_
      | exact x_le)
  rfl
theorem nil_ok {d : Disk} (h : d = d0) : d.v.nf = (V.agg [.nils, .nils] : Abs.V).nf := by subst h; rfl
theorem same_nil : ACalls Tryd.prog 15 [.agg [.fro [], .fro []], .agg [.nils, .nils]] (.bool true) := by
  have := sameDisk_v (d := d0)
  exact ACalls.nf this rfl
set_option maxRecDepth 100000 in
set_option maxHeartbeats 4000000 in
theorem adds_law {d : Disk} {m : Int} {s : List UInt8} (hm : InR .u64 m) : ACallsG Tryd.prog gBoth 5 [d.v, strT s, .int .u64 m] (.bool true) := by
  obtain ⟨m, rfl⟩ : ∃ k : Nat, m = (k : Int) := ⟨m.toNat, by have := hm.1; simp only [rng] at this; omega⟩
  have hm : m < 18446744073709551616 := by have := hm.2; simp only [rng] at this; omega
  have c0 := begun_v
  have c1 := append_v (d := d) (s := s)
  by_cases h0 : (appendF d s).2 = 0
  · obtain ⟨t, k, hL, h1, h2, h3, h4⟩ := steps_ok (append_ok ▸ h0)
    obtain ⟨g1, g2, g3⟩ := append_log hL h1 h2 h3
    have c2 := items_v (d := d)
    rw [hL.items] at c2
    have c3 := items_v (d := (appendF d s).1)
    have hi := g2.items
    have e3 : (itemsF (appendF d s).1) = ((itemsF d).1 ++ [s], 0) := by rw [← g3, hi]
    rw [e3, hL.items] at c3
    have c4 := crash_v (d := (appendF d s).1) hm
    rw [crash_none g2.ck g2.wt] at c4
    have c5 := sameDisk_v (d := (appendF d s).1)
    have hw := g2.wt
    rw [h0] at c1
    have hl : ((d.kept.drop 2).take k).length ≤ 40 := by
      obtain ⟨b1, _⟩ := disk_bd hL
      rw [List.length_take, List.length_drop]; omega
    generalize (d.kept.drop 2).take k = L at *
    generalize (appendF d s).1 = a at *
    clear h4 hi e3 g1 g2 g3
    obtain ⟨K2, W2⟩ := a
    dsimp only at hw
    subst hw
    obtain ⟨K, W⟩ := d
    have hW : W = [] := hL.wt
    subst hW
    have hf : List.take (([] ++ L) ++ [s]).length (List.drop 0 ((([] ++ L) ++ [s]).map strT)) = (L ++ [s]).map strT := full strT (L ++ [s])
    have c6 : ACalls Tryd.prog 24 [.fro ((L ++ [s]).map strT), .fro (List.take (([] ++ L) ++ [s]).length (List.drop 0 ((([] ++ L) ++ [s]).map strT)))] (.bool true) := by rw [hf]; exact same_v (L := L ++ [s])
    have c1 : ACallsG Tryd.prog gBoth 19 [kD K, strT s] (.tup [kD K2, .int .i64 0]) := c1
    have c2 : ACallsG Tryd.prog gBoth 17 [kD K] (.tup [.fro (L.map strT), .int .i64 0]) := c2
    have c3 : ACallsG Tryd.prog gBoth 17 [kD K2] (.tup [.fro ((L ++ [s]).map strT), .int .i64 0]) := c3
    have c4 : ACalls Tryd.prog 9 [kD K2, .int .u64 (m : Int)] (.tup [kD K2, .int .i64 0]) := c4
    have c5 : ACalls Tryd.prog 15 [kD K2, kD K2] (.bool true) := c5
    show ACallsG _ _ _ [kD K, strT s, .int .u64 (m : Int)] _
    have hw2 : (([] : List (List UInt8)) ++ L).length = L.length := by simp
    refine funG3 tb_ok Tryd.func5 rfl Tryd.ntmps5 Tryd.results5 rfl fun N => ?_
    repeat' (first
        | with_reducible first | refine awp_seq ?_ | refine awp_region ?_ | refine awp_draw mixed ?_ | refine then_n ?_ | refine awp_skip ?_ | refine awp_block ?_ | refine awp_exit ?_ | refine awp_ret ?_ | refine awp_label ?_ | refine then_exit ?_ | refine then_ret ?_ | refine blk_n ?_ | refine blk_ret ?_ | refine blk_exit ?_ | refine blk_other rfl ?_ | refine then_k ?_
        | refine awp_true rfl ?_
        | refine awp_false rfl ?_
        | refine awp_split rfl (fun hb => ?_) (fun hb => ?_)
        | (refine isR ?_; first | refine x_far [52] tb_ok rfl ?_ | refine r_nil ?_ | refine r_nild (by kernel_rfl) ?_ | refine x_call (c0 _) ?_ | refine x_call (c0) ?_ | refine x_call (c1 _) ?_ | refine x_call (c1) ?_ | refine x_call (c2 _) ?_ | refine x_call (c2) ?_ | refine x_call (c3 _) ?_ | refine x_call (c3) ?_ | refine x_call (c4 _) ?_ | refine x_call (c4) ?_ | refine x_callz [4] (c6 _) ?_ | refine x_callz [4] (c6) ?_ | refine x_call (c5 _) ?_ | refine x_call (c5) ?_ | refine x_appK strT (L := []) (K' := L) tb_ok ?_ | refine x_app strT (a1 := (s)) tb_ok ?_ | refine x_bsO 52 tb_ok ?_ | refine x_bs tb_ok ?_ | refine x_eqlT ?_ | refine x_eqlF ?_ | refine x_eql (fun hc => ?_) (fun hc => ?_) | refine x_neqT ?_ | refine x_neqF ?_ | refine x_neq (fun hc => ?_) (fun hc => ?_) | refine x_eqlB ?_ | refine x_eqlST ?_ | refine x_eqlSF ?_ | refine x_eqlS (fun hc => ?_) (fun hc => ?_) | refine x_eqlI ?_ | refine x_eqlN ?_ | refine x_neqB ?_ | refine x_neqST ?_ | refine x_neqSF ?_ | refine x_neqS (fun hc => ?_) (fun hc => ?_) | refine x_neqI ?_ | refine x_neqN ?_ | refine x_eqlA tb_ok ?_ | refine x_eqlAS tb_ok (fun hc => ?_) (fun hc => ?_) | refine x_neqA tb_ok ?_ | refine x_neqAS tb_ok (fun hc => ?_) (fun hc => ?_))
        | refine x_ret ?_
        | refine x_nor ?_
        | exact x_le)
    all_goals first | rfl | (trace_state; sorry)
  · have e := append_no h0
    rw [e] at c1
    have hne : (stepsF d s).2 ≠ 0 := append_ok ▸ h0
    generalize (stepsF d s).2 = x at *
    have c2 := same_nil
    have c1 : ACallsG Tryd.prog gBoth 19 [d.v, strT s] (.tup [.agg [.fro [], .fro []], .int .i64 x]) := c1
    obtain ⟨K, W⟩ := d
    dsimp only [Disk.v] at *
    refine funG3 tb_ok Tryd.func5 rfl Tryd.ntmps5 Tryd.results5 rfl fun N => ?_
    repeat' (first
        | with_reducible first | refine awp_seq ?_ | refine awp_region ?_ | refine awp_draw mixed ?_ | refine then_n ?_ | refine awp_skip ?_ | refine awp_block ?_ | refine awp_exit ?_ | refine awp_ret ?_ | refine awp_label ?_ | refine then_exit ?_ | refine then_ret ?_ | refine blk_n ?_ | refine blk_ret ?_ | refine blk_exit ?_ | refine blk_other rfl ?_ | refine then_k ?_
        | refine awp_true rfl ?_
        | refine awp_false rfl ?_
        | refine awp_split rfl (fun hb => ?_) (fun hb => ?_)
        | (refine isR ?_; first | refine x_far [52] tb_ok rfl ?_ | refine r_nil ?_ | refine r_nild (by kernel_rfl) ?_ | refine x_call (c0 _) ?_ | refine x_call (c0) ?_ | refine x_call (c1 _) ?_ | refine x_call (c1) ?_ | refine x_call (c2 _) ?_ | refine x_call (c2) ?_ | refine x_bsO 52 tb_ok ?_ | refine x_bs tb_ok ?_ | refine x_eqlT ?_ | refine x_eqlF ?_ | refine x_eql (fun hc => ?_) (fun hc => ?_) | refine x_neqT ?_ | refine x_neqF ?_ | refine x_neq (fun hc => ?_) (fun hc => ?_) | refine x_eqlB ?_ | refine x_eqlST ?_ | refine x_eqlSF ?_ | refine x_eqlS (fun hc => ?_) (fun hc => ?_) | refine x_eqlI ?_ | refine x_eqlN ?_ | refine x_neqB ?_ | refine x_neqST ?_ | refine x_neqSF ?_ | refine x_neqS (fun hc => ?_) (fun hc => ?_) | refine x_neqI ?_ | refine x_neqN ?_ | refine x_eqlA tb_ok ?_ | refine x_eqlAS tb_ok (fun hc => ?_) (fun hc => ?_) | refine x_neqA tb_ok ?_ | refine x_neqAS tb_ok (fun hc => ?_) (fun hc => ?_))
        | refine x_ret ?_
        | refine x_nor ?_
        | exact x_le)
    all_goals first | rfl | (trace_state; sorry)
theorem tells_all {d : Disk} {p m : Int} {s : List UInt8} : ACallsG Tryd.prog gBoth 3 [d.v, .int .i64 p, strT s, .int .u64 m] (.bool true) := ACallsG.lim fun hl => tells_law hl.2.2.2.1
theorem adds_all {d : Disk} {m : Int} {s : List UInt8} : ACallsG Tryd.prog gBoth 5 [d.v, strT s, .int .u64 m] (.bool true) := ACallsG.lim fun hl => adds_law hl.2.2.1
end Go.Proofs.YtdimidhacccdjaaDoor.DiskL
