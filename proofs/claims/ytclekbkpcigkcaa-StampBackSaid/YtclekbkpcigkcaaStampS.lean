/- Dates: the law of what is written and read. -/
import Derived.Test.YtclekbkpcigkcaaStampR
namespace Go.Proofs.Ytclekbkpcigkcaa.StampS
open Go.RowKit Mem Abs TreeW WordP WordS HostP HostO HostA PathT StampP StampA StampB StampC StampD StampE StampF StampG StampH StampI StampJ StampK StampL StampM StampN StampO StampR Lead ClockP ClockW ClockO ClockR ClockM ClockT ClockI ClockV

def OkW (W : List UInt8) : Prop := ns W = true ∧ takeF rd0 W = rd0
def OkM (M : List UInt8) (m : Nat) : Prop := ns M = true ∧ (dayTimeF M 0 0 0).1 = false ∧ monthF M = m
theorem wk_ok : ∀ w : Fin 7, OkW (wkA w.val) ∧ OkW (fold (wkA w.val)) := fun ⟨w, h⟩ => by
  match w, h with
  | 0, _ => exact ⟨⟨by kernel_rfl, by kernel_rfl⟩, ⟨by kernel_rfl, by kernel_rfl⟩⟩
  | 1, _ => exact ⟨⟨by kernel_rfl, by kernel_rfl⟩, ⟨by kernel_rfl, by kernel_rfl⟩⟩
  | 2, _ => exact ⟨⟨by kernel_rfl, by kernel_rfl⟩, ⟨by kernel_rfl, by kernel_rfl⟩⟩
  | 3, _ => exact ⟨⟨by kernel_rfl, by kernel_rfl⟩, ⟨by kernel_rfl, by kernel_rfl⟩⟩
  | 4, _ => exact ⟨⟨by kernel_rfl, by kernel_rfl⟩, ⟨by kernel_rfl, by kernel_rfl⟩⟩
  | 5, _ => exact ⟨⟨by kernel_rfl, by kernel_rfl⟩, ⟨by kernel_rfl, by kernel_rfl⟩⟩
  | 6, _ => exact ⟨⟨by kernel_rfl, by kernel_rfl⟩, ⟨by kernel_rfl, by kernel_rfl⟩⟩
theorem mo_ok : ∀ m : Fin 12, OkM (moA (m.val + 1)) (m.val + 1) ∧ OkM (fold (moA (m.val + 1))) (m.val + 1) := fun ⟨m, h⟩ => by
  match m, h with
  | 0, _ => exact ⟨⟨by kernel_rfl, by kernel_rfl, by kernel_rfl⟩, ⟨by kernel_rfl, by kernel_rfl, by kernel_rfl⟩⟩
  | 1, _ => exact ⟨⟨by kernel_rfl, by kernel_rfl, by kernel_rfl⟩, ⟨by kernel_rfl, by kernel_rfl, by kernel_rfl⟩⟩
  | 2, _ => exact ⟨⟨by kernel_rfl, by kernel_rfl, by kernel_rfl⟩, ⟨by kernel_rfl, by kernel_rfl, by kernel_rfl⟩⟩
  | 3, _ => exact ⟨⟨by kernel_rfl, by kernel_rfl, by kernel_rfl⟩, ⟨by kernel_rfl, by kernel_rfl, by kernel_rfl⟩⟩
  | 4, _ => exact ⟨⟨by kernel_rfl, by kernel_rfl, by kernel_rfl⟩, ⟨by kernel_rfl, by kernel_rfl, by kernel_rfl⟩⟩
  | 5, _ => exact ⟨⟨by kernel_rfl, by kernel_rfl, by kernel_rfl⟩, ⟨by kernel_rfl, by kernel_rfl, by kernel_rfl⟩⟩
  | 6, _ => exact ⟨⟨by kernel_rfl, by kernel_rfl, by kernel_rfl⟩, ⟨by kernel_rfl, by kernel_rfl, by kernel_rfl⟩⟩
  | 7, _ => exact ⟨⟨by kernel_rfl, by kernel_rfl, by kernel_rfl⟩, ⟨by kernel_rfl, by kernel_rfl, by kernel_rfl⟩⟩
  | 8, _ => exact ⟨⟨by kernel_rfl, by kernel_rfl, by kernel_rfl⟩, ⟨by kernel_rfl, by kernel_rfl, by kernel_rfl⟩⟩
  | 9, _ => exact ⟨⟨by kernel_rfl, by kernel_rfl, by kernel_rfl⟩, ⟨by kernel_rfl, by kernel_rfl, by kernel_rfl⟩⟩
  | 10, _ => exact ⟨⟨by kernel_rfl, by kernel_rfl, by kernel_rfl⟩, ⟨by kernel_rfl, by kernel_rfl, by kernel_rfl⟩⟩
  | 11, _ => exact ⟨⟨by kernel_rfl, by kernel_rfl, by kernel_rfl⟩, ⟨by kernel_rfl, by kernel_rfl, by kernel_rfl⟩⟩
theorem nil_tail : ∀ cur : List UInt8, cur ≠ [] → wordsG cur [] = cur :: [] := fun cur h => by
  show (if cur = [] then [] else [cur]) = [cur]
  rw [if_neg h]
theorem more_tail (b : List UInt8) : ∀ cur : List UInt8, cur ≠ [] → wordsG cur (32 :: b) = cur :: wordsG [] b := fun cur h => by
  have s32 : sepB 32 = true := rfl
  rw [words_one, if_pos s32, if_neg h]
theorem textA_C (w y m d h mi s : Nat) (x : List UInt8) : textA w y m d h mi s ++ x = textC (wkA w) (moA m) ([71, 77, 84] : List UInt8) x y d h mi s := by
  unfold textA textC clk
  simp
theorem fold_text (w y m d h mi s : Nat) : fold (textA w y m d h mi s) = textC (fold (wkA w)) (fold (moA m)) ([103, 109, 116] : List UInt8) [] y d h mi s := by
  have f1 : foldB 44 = 44 := rfl
  have f2 : foldB 32 = 32 := rfl
  have f3 : foldB 58 = 58 := rfl
  have f4 : foldB 71 = 103 := rfl
  have f5 : foldB 77 = 109 := rfl
  have f6 : foldB 84 = 116 := rfl
  unfold fold textA textC clk two four
  simp [dgt_fold, f1, f2, f3, f4, f5, f6]
theorem len_text {w y m d h mi s : Nat} (hw : (wkA w).length = 3) (hm : (moA m).length = 3) : (textA w y m d h mi s).length = 29 := by
  unfold textA two four
  simp [hw, hm]
theorem ne3 {l : List UInt8} (h : l.length = 3) : l ≠ [] := fun e => by rw [e] at h; cases h
theorem read_text {n : Int} (hb : isB n = true) : (textF n).length = 29 ∧ readF (textF n) = (n, 0) ∧ readF (fold (textF n)) = (n, 0) ∧ ∀ b, readF (textF n ++ [32] ++ b) = (0, 2) ∨ readF (textF n ++ [32] ++ b) = (n, 0) := by
  obtain ⟨y, m, d, h, mi, s, w, ht, hw, b1, b2, b3, b4, b5, b6, b7, b8, tx⟩ := nums hb
  obtain ⟨hr, hmo⟩ := tm_right hb
  rw [ht] at hr hmo
  dsimp only at hr hmo
  have hy : 1601 ≤ (y : Int) := hr.1.1
  obtain ⟨_, _, wc⟩ := wk_all ⟨w, b1⟩
  obtain ⟨_, _, mc⟩ := mo_all ⟨m - 1, by omega⟩
  obtain ⟨w1, w2⟩ := wk_ok ⟨w, b1⟩
  obtain ⟨m1, m2⟩ := mo_ok ⟨m - 1, by omega⟩
  dsimp only at wc mc w1 w2 m1 m2
  rw [show m - 1 + 1 = m by omega] at mc m1 m2
  have wc2 : (fold (wkA w)).length = 3 := by rw [show (fold (wkA w)).length = (wkA w).length from List.length_map ..]; exact wc
  have mc2 : (fold (moA m)).length = 3 := by rw [show (fold (moA m)).length = (moA m).length from List.length_map ..]; exact mc
  have hl : (textF n).length = 29 := by rw [tx]; exact len_text wc mc
  have ho : ofF y m d h mi s = (n, 0) := by rw [ofF_yes hr, hmo]
  have main : ∀ x X, (∀ cur : List UInt8, cur ≠ [] → wordsG cur x = cur :: X) → foundF (textC (wkA w) (moA m) ([71, 77, 84] : List UInt8) x y d h mi s) = ⟨y, m, d, h, mi, s, true, true, true, true⟩ := fun x X hx =>
    found_text w1.1 (ne3 wc) m1.1 (ne3 mc) rfl (by simp) hx w1.2 m1.2.1 m1.2.2 (by omega) (by omega) (by omega) (by omega) (by omega) (by omega) (by omega)
  have main2 : foundF (textC (fold (wkA w)) (fold (moA m)) ([103, 109, 116] : List UInt8) [] y d h mi s) = ⟨y, m, d, h, mi, s, true, true, true, true⟩ :=
    found_text w2.1 (ne3 wc2) m2.1 (ne3 mc2) rfl (by simp) nil_tail w2.2 m2.2.1 m2.2.2 (by omega) (by omega) (by omega) (by omega) (by omega) (by omega) (by omega)
  have hfl : (fold (textF n)).length = 29 := by rw [show (fold (textF n)).length = (textF n).length from List.length_map ..]; exact hl
  refine ⟨hl, ?_, ?_, fun b => ?_⟩
  · rw [read_right (by omega) (by rw [tx, ← List.append_nil (textA _ _ _ _ _ _ _), textA_C]; exact main [] [] nil_tail), ho]
  · rw [read_right (by omega) (by rw [tx, fold_text]; exact main2), ho]
  · by_cases h4 : 400 < (textF n ++ [32] ++ b).length
    · exact .inl (by unfold readF; rw [if_pos h4])
    · exact .inr (by rw [read_right h4 (by rw [tx, List.append_assoc, textA_C]; exact main (32 :: b) _ (more_tail b)), ho])
set_option maxRecDepth 100000 in
set_option maxHeartbeats 4000000 in
theorem back_law {g : Glob} (hg : HasMax g) {n : Int} {b : List UInt8} (hbl : b.length ≤ 140737488351232) : ACallsG Try.prog g 7 [.int .i64 n, strT b] (.bool true) := by
  have c0 := begun_v hg
  have c1 := write_v (n := n)
  cases hb : isB n with
  | false =>
    have te : teF n = 3 := by unfold teF; rw [if_neg (by simp [hb])]
    have tx : textF n = [] := by unfold textF; rw [if_neg (by simp [hb])]
    rw [te, tx] at c1
    refine funG2 tb_ok Try.func7 rfl Try.ntmps7 Try.results7 rfl fun N => ?_
    repeat' (first
        | with_reducible first | refine awp_seq ?_ | refine awp_region ?_ | refine awp_draw mixed ?_ | refine then_n ?_ | refine awp_skip ?_ | refine awp_block ?_ | refine awp_exit ?_ | refine awp_ret ?_ | refine awp_label ?_ | refine then_exit ?_ | refine then_ret ?_ | refine blk_n ?_ | refine blk_ret ?_ | refine blk_exit ?_ | refine blk_other rfl ?_ | refine then_k ?_
        | refine awp_true rfl ?_
        | refine awp_false rfl ?_
        | refine awp_split rfl (fun hb => ?_) (fun hb => ?_)
        | (refine isR ?_; first | refine x_far [] tb_ok rfl ?_ | refine r_nil ?_ | refine r_nild (by kernel_rfl) ?_ | refine x_call (c0 _) ?_ | refine x_call (c0) ?_ | refine x_call (c1 _) ?_ | refine x_call (c1) ?_ | refine x_addE ?_ | refine x_add ?_ | refine x_cat ?_ | refine x_lenF tb_ok ?_ | refine x_lenO tb_ok ?_ | refine x_lenN tb_ok ?_ | refine x_lenS ?_ | refine x_eqlT ?_ | refine x_eqlF ?_ | refine x_eql (fun hc => ?_) (fun hc => ?_) | refine x_neqT ?_ | refine x_neqF ?_ | refine x_neq (fun hc => ?_) (fun hc => ?_) | refine x_eqlB ?_ | refine x_eqlST ?_ | refine x_eqlSF ?_ | refine x_eqlS (fun hc => ?_) (fun hc => ?_) | refine x_eqlI ?_ | refine x_eqlN ?_ | refine x_neqB ?_ | refine x_neqST ?_ | refine x_neqSF ?_ | refine x_neqS (fun hc => ?_) (fun hc => ?_) | refine x_neqI ?_ | refine x_neqN ?_ | refine x_eqlA tb_ok ?_ | refine x_eqlAS tb_ok (fun hc => ?_) (fun hc => ?_) | refine x_neqA tb_ok ?_ | refine x_neqAS tb_ok (fun hc => ?_) (fun hc => ?_))
        | refine x_ret ?_
        | refine x_nor ?_
        | exact x_le)
    rfl
  | true =>
    have te : teF n = 0 := by unfold teF; rw [if_pos hb]
    obtain ⟨hl, k1, k2, k3⟩ := read_text hb
    have k3 := k3 b
    have c2 := read_v hg (s := textF n)
    have c3 := foldOf_v (l := textF n)
    have c4 := read_v hg (s := fold (textF n))
    have c5 := read_v hg (s := textF n ++ [32] ++ b)
    rw [te] at c1
    rw [k1] at c2
    rw [k2] at c4
    dsimp only at c2 c4
    have l3 : ([32] : List UInt8).length = 1 := rfl
    clear k1 k2
    generalize readF (textF n ++ [32] ++ b) = o at *
    generalize textF n = t at *
    obtain ⟨o1, o2⟩ := o
    rcases k3 with k3 | k3
    · cases k3
      refine funG2 tb_ok Try.func7 rfl Try.ntmps7 Try.results7 rfl fun N => ?_
      repeat' (first
          | with_reducible first | refine awp_seq ?_ | refine awp_region ?_ | refine awp_draw mixed ?_ | refine then_n ?_ | refine awp_skip ?_ | refine awp_block ?_ | refine awp_exit ?_ | refine awp_ret ?_ | refine awp_label ?_ | refine then_exit ?_ | refine then_ret ?_ | refine blk_n ?_ | refine blk_ret ?_ | refine blk_exit ?_ | refine blk_other rfl ?_ | refine then_k ?_
          | refine awp_true rfl ?_
          | refine awp_false rfl ?_
          | refine awp_split rfl (fun hb => ?_) (fun hb => ?_)
          | (refine isR ?_; first | refine x_far [] tb_ok rfl ?_ | refine r_nil ?_ | refine r_nild (by kernel_rfl) ?_ | refine x_call (c0 _) ?_ | refine x_call (c0) ?_ | refine x_call (c1 _) ?_ | refine x_call (c1) ?_ | refine x_call (c2 _) ?_ | refine x_call (c2) ?_ | refine x_call (c3 _) ?_ | refine x_call (c3) ?_ | refine x_call (c4 _) ?_ | refine x_call (c4) ?_ | refine x_call (c5 _) ?_ | refine x_call (c5) ?_ | refine x_addE ?_ | refine x_add ?_ | refine x_cat ?_ | refine x_lenF tb_ok ?_ | refine x_lenO tb_ok ?_ | refine x_lenN tb_ok ?_ | refine x_lenS ?_ | refine x_eqlT ?_ | refine x_eqlF ?_ | refine x_eql (fun hc => ?_) (fun hc => ?_) | refine x_neqT ?_ | refine x_neqF ?_ | refine x_neq (fun hc => ?_) (fun hc => ?_) | refine x_eqlB ?_ | refine x_eqlST ?_ | refine x_eqlSF ?_ | refine x_eqlS (fun hc => ?_) (fun hc => ?_) | refine x_eqlI ?_ | refine x_eqlN ?_ | refine x_neqB ?_ | refine x_neqST ?_ | refine x_neqSF ?_ | refine x_neqS (fun hc => ?_) (fun hc => ?_) | refine x_neqI ?_ | refine x_neqN ?_ | refine x_eqlA tb_ok ?_ | refine x_eqlAS tb_ok (fun hc => ?_) (fun hc => ?_) | refine x_neqA tb_ok ?_ | refine x_neqAS tb_ok (fun hc => ?_) (fun hc => ?_))
          | refine x_ret ?_
          | refine x_nor ?_
          | exact x_le)
      all_goals first | rfl | (exfalso; omega)
    · cases k3
      refine funG2 tb_ok Try.func7 rfl Try.ntmps7 Try.results7 rfl fun N => ?_
      repeat' (first
          | with_reducible first | refine awp_seq ?_ | refine awp_region ?_ | refine awp_draw mixed ?_ | refine then_n ?_ | refine awp_skip ?_ | refine awp_block ?_ | refine awp_exit ?_ | refine awp_ret ?_ | refine awp_label ?_ | refine then_exit ?_ | refine then_ret ?_ | refine blk_n ?_ | refine blk_ret ?_ | refine blk_exit ?_ | refine blk_other rfl ?_ | refine then_k ?_
          | refine awp_true rfl ?_
          | refine awp_false rfl ?_
          | refine awp_split rfl (fun hb => ?_) (fun hb => ?_)
          | (refine isR ?_; first | refine x_far [] tb_ok rfl ?_ | refine r_nil ?_ | refine r_nild (by kernel_rfl) ?_ | refine x_call (c0 _) ?_ | refine x_call (c0) ?_ | refine x_call (c1 _) ?_ | refine x_call (c1) ?_ | refine x_call (c2 _) ?_ | refine x_call (c2) ?_ | refine x_call (c3 _) ?_ | refine x_call (c3) ?_ | refine x_call (c4 _) ?_ | refine x_call (c4) ?_ | refine x_call (c5 _) ?_ | refine x_call (c5) ?_ | refine x_addE ?_ | refine x_add ?_ | refine x_cat ?_ | refine x_lenF tb_ok ?_ | refine x_lenO tb_ok ?_ | refine x_lenN tb_ok ?_ | refine x_lenS ?_ | refine x_eqlT ?_ | refine x_eqlF ?_ | refine x_eql (fun hc => ?_) (fun hc => ?_) | refine x_neqT ?_ | refine x_neqF ?_ | refine x_neq (fun hc => ?_) (fun hc => ?_) | refine x_eqlB ?_ | refine x_eqlST ?_ | refine x_eqlSF ?_ | refine x_eqlS (fun hc => ?_) (fun hc => ?_) | refine x_eqlI ?_ | refine x_eqlN ?_ | refine x_neqB ?_ | refine x_neqST ?_ | refine x_neqSF ?_ | refine x_neqS (fun hc => ?_) (fun hc => ?_) | refine x_neqI ?_ | refine x_neqN ?_ | refine x_eqlA tb_ok ?_ | refine x_eqlAS tb_ok (fun hc => ?_) (fun hc => ?_) | refine x_neqA tb_ok ?_ | refine x_neqAS tb_ok (fun hc => ?_) (fun hc => ?_))
          | refine x_ret ?_
          | refine x_nor ?_
          | exact x_le)
      all_goals first | rfl | (exfalso; omega)
end Go.Proofs.Ytclekbkpcigkcaa.StampS
