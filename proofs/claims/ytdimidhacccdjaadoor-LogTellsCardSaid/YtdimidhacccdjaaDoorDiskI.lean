/- The document's numerals: one read off a text; two of them. -/
import Derived.Test.YtdimidhacccdjaaDoorDiskH
namespace Go.Proofs.YtdimidhacccdjaaDoor.DiskI
open Go.RowKit Mem Abs TreeW NumP WordS DiskP DiskG DiskH

set_option maxRecDepth 100000 in
set_option maxHeartbeats 4000000 in
theorem numberN_v {s : List UInt8} {z : Int} (hz : posB 59 s = z) (z0 : z < 0) : ACalls Tryd.prog 53 [strT s] (.tup [.int .i64 0, strT [], .bool false]) := by
  have c0 : ACalls Tryd.prog 66 [strT s, byteT 59] (.int .i64 z) := hz ▸ placeOf_v
  refine fun1 tb_ok Tryd.func53 rfl Tryd.ntmps53 Tryd.results53 rfl fun N => ?_
  repeat' (first
      | with_reducible first | refine awp_seq ?_ | refine awp_region ?_ | refine awp_draw mixed ?_ | refine then_n ?_ | refine awp_skip ?_ | refine awp_block ?_ | refine awp_exit ?_ | refine awp_ret ?_ | refine awp_label ?_ | refine then_exit ?_ | refine then_ret ?_ | refine blk_n ?_ | refine blk_ret ?_ | refine blk_exit ?_ | refine blk_other rfl ?_ | refine then_k ?_
      | refine awp_true rfl ?_
      | refine awp_false rfl ?_
      | refine awp_split rfl (fun hb => ?_) (fun hb => ?_)
      | (refine isR ?_; first | refine x_far [] tb_ok rfl ?_ | refine r_nil ?_ | refine r_nild (by kernel_rfl) ?_ | refine x_call (c0 _) ?_ | refine x_call (c0) ?_ | refine x_addE ?_ | refine x_add ?_ | refine x_subE ?_ | refine x_sub ?_ | refine x_mulE ?_ | refine x_mul ?_ | refine x_cat ?_ | refine x_lenF tb_ok ?_ | refine x_lenO tb_ok ?_ | refine x_lenN tb_ok ?_ | refine x_lenS ?_ | refine x_lssT ?_ | refine x_lssF ?_ | refine x_lss (fun hc => ?_) (fun hc => ?_) | refine x_gtrT ?_ | refine x_gtrF ?_ | refine x_gtr (fun hc => ?_) (fun hc => ?_) | refine x_eqlT ?_ | refine x_eqlF ?_ | refine x_eql (fun hc => ?_) (fun hc => ?_) | refine x_eqlB ?_ | refine x_eqlST ?_ | refine x_eqlSF ?_ | refine x_eqlS (fun hc => ?_) (fun hc => ?_) | refine x_eqlI ?_ | refine x_eqlN ?_ | refine x_ixS tb_ok ?_ | refine x_ixA tb_ok ?_ | refine x_slSf tb_ok ?_ | refine x_slSt tb_ok ?_ | refine x_slSm tb_ok ?_ | refine x_slFf tb_ok ?_ | refine x_slFt tb_ok ?_ | refine x_slFm tb_ok ?_ | refine x_bytes tb_ok ?_ | refine x_cv64 tb_ok ?_ | refine x_eqlA tb_ok ?_ | refine x_eqlAS tb_ok (fun hc => ?_) (fun hc => ?_))
      | refine x_ret ?_
      | refine x_nor ?_
      | exact x_le)
  rfl
/-- What a numeral's reading says. -/
def Reads (s : List UInt8) (x : Int) (r : List UInt8) (b : Bool) : Prop := r.length ≤ s.length ∧ (b = true → s = Lib.itoa x ++ 59 :: r) ∧ ∀ (y : Nat) (r' : List UInt8), y ≤ 1000000 → s = dd y ++ 59 :: r' → b = true ∧ x = (y : Int) ∧ r = r'
theorem first_same {w r w' r' : List UInt8} (h : w ++ 59 :: r = w' ++ 59 :: r') (h1 : w.contains 59 = false) (h2 : w'.contains 59 = false) : w = w' ∧ r = r' := by
  have e := congrArg (split 59) h
  rw [split_app 59 w r h1, split_app 59 w' r' h2] at e
  have e1 := (List.cons.inj e).1
  subst e1
  exact ⟨rfl, (List.cons.inj (List.append_cancel_left h)).2⟩
theorem number_fin {w D r : List UInt8} {neg : Bool} (hc : ACalls Tryd.prog 53 [strT (w ++ 59 :: r)] (numV neg D w r)) (hD : ∀ y : Nat, w = dd y → neg = false ∧ D = w) (hw : w.contains 59 = false) :
    ∃ (x : Int) (r2 : List UInt8) (b : Bool), ACalls Tryd.prog 53 [strT (w ++ 59 :: r)] (.tup [.int .i64 x, strT r2, .bool b]) ∧ Reads (w ++ 59 :: r) x r2 b := by
  have hu : ∀ (y : Nat) (r' : List UInt8), w ++ 59 :: r = dd y ++ 59 :: r' → w = dd y ∧ r = r' := fun y r' h => first_same h hw (dd_no y)
  unfold numV at hc
  by_cases hd : D.all digC = true
  · rw [if_pos hd] at hc
    refine ⟨_, _, _, hc, by simp; omega, fun h => by rw [of_decide_eq_true h], fun y r' hy he => ?_⟩
    obtain ⟨e1, e2⟩ := hu y r' he
    obtain ⟨h1, h2⟩ := hD y e1
    have hv : valA 0 D = y := by rw [h2, e1]; exact dd_val y
    have hf := fold_val (List.all_eq_true.1 hd) (by rw [hv]; exact hy)
    rw [hv] at hf
    have hx : xF neg (foldW D) = (y : Int) := by
      rw [hf, h1]
      show IntKind.i64.wrap (y : Int) = _
      simp only [IntKind.wrap, IntKind.bits, IntKind.signed]
      simp
      omega
    rw [hx, itoa_dd, e1]
    exact ⟨decide_eq_true rfl, rfl, e2⟩
  · rw [if_neg hd] at hc
    refine ⟨_, _, _, hc, Nat.zero_le _, (fun h => Bool.noConfusion h), fun y r' hy he => ?_⟩
    obtain ⟨e1, e2⟩ := hu y r' he
    obtain ⟨h1, h2⟩ := hD y e1
    exact absurd (List.all_eq_true.2 fun c hc => dd_digits y c (by rw [h2, e1] at hc; exact hc)) hd
theorem numberIn_v {s : List UInt8} (hs : s.length ≤ 20000) : ∃ (x : Int) (r : List UInt8) (b : Bool), ACalls Tryd.prog 53 [strT s] (.tup [.int .i64 x, strT r, .bool b]) ∧ Reads s x r b := by
  rcases first_at 59 s with h | ⟨w, r, rfl, hw⟩
  · refine ⟨0, [], false, numberN_v rfl (pos_none.2 h), Nat.zero_le _, (fun h => Bool.noConfusion h), fun y r' _ he => ?_⟩
    rw [he] at h
    simp at h
  · have hz : posB 59 (w ++ 59 :: r) = (w.length : Int) := index_at w r 59 hw
    have hl : (w ++ 59 :: r).length = w.length + 1 + r.length := by simp; omega
    have hW : (w ++ 59 :: r).take ((w.length : Int)).toNat = w := by rw [Int.toNat_natCast, List.take_left]
    have hR : (w ++ 59 :: r).drop ((w.length : Int) + 1).toNat = r := by
      have e : ((w.length : Int) + 1).toNat = (w ++ [59]).length := by rw [List.length_append]; show _ = w.length + 1; omega
      have e2 : w ++ 59 :: r = (w ++ [59]) ++ r := by simp
      rw [e, e2, List.drop_left]
    have z0 : (0 : Int) ≤ w.length := by omega
    have z1 : (w.length : Int) < (w ++ 59 :: r).length := by omega
    cases w with
    | nil => exact number_fin (numberE_v rfl hz z0 z1 hW hR hs) (fun y _ => ⟨rfl, rfl⟩) hw
    | cons c t =>
      by_cases hc : c = 45
      · subst hc
        exact number_fin (numberM_v (D := t) rfl rfl hz z0 z1 hW hR hs) (fun y e => by
          have := dd_head e.symm
          cases this) hw
      · exact number_fin (numberP_v (b0 := c) rfl hc hz z0 z1 hW hR hs) (fun y _ => ⟨rfl, rfl⟩) hw
end Go.Proofs.YtdimidhacccdjaaDoor.DiskI
