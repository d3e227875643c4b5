/- The document's numerals: read. (Written by genDiskH.py.) -/
import Derived.Test.YtdimidhacccdjaaDoorDiskG
namespace Go.Proofs.YtdimidhacccdjaaDoor.Abs
open Go.RowKit Mem Facts
section
variable {P : Program} {N : Env} {l r : List Oper} {o : Oper} {tm : List (Nat × V)} {st : List (Nat × Option Blk)} {nx nt : Nat} {tr : List Tr} {K : S → List Tr → Prop} {tb : List Ty} {d T : Nat} {x y : Operand} {a : Int} {p q : List UInt8} {e : Ty} {kd : IntKind}
theorem x_slSfE (htb : TbOk P tb) (h : p.drop a.toNat = q) (k : ARun P N l K r ⟨(d, strT q) :: tm, st, nx, nt⟩ (tr ++ [trOf l o ⟨[(x, strT p), (y, .int kd a)], []⟩ []])) (ho : o.op = .slice T x (some y) none none := by rfl) (hx : S.ev ⟨tm, st, nx, nt⟩ x = some (strT p) := by rfl) (hy : S.ev ⟨tm, st, nx, nt⟩ y = some (.int kd a) := by rfl) (hg : guardV l o ⟨tm, st, nx, nt⟩ = some true := by rfl) (hd : o.dst = some d := by rfl) (hlt : Nat.blt d nt = true := by rfl) (hT' : nth tb T = some e := by rfl) (hk : e.knd = 2 := by rfl) (h0' : 0 ≤ a := by omega) (h1 : a ≤ p.length := by omega) : ARun P N l K (o :: r) ⟨tm, st, nx, nt⟩ tr := by
  subst h
  exact x_slSf htb k ho hx hy hg hd hlt hT' hk h0' h1
theorem x_slStE (htb : TbOk P tb) (h : p.take a.toNat = q) (k : ARun P N l K r ⟨(d, strT q) :: tm, st, nx, nt⟩ (tr ++ [trOf l o ⟨[(x, strT p), (y, .int kd a)], []⟩ []])) (ho : o.op = .slice T x none (some y) none := by rfl) (hx : S.ev ⟨tm, st, nx, nt⟩ x = some (strT p) := by rfl) (hy : S.ev ⟨tm, st, nx, nt⟩ y = some (.int kd a) := by rfl) (hg : guardV l o ⟨tm, st, nx, nt⟩ = some true := by rfl) (hd : o.dst = some d := by rfl) (hlt : Nat.blt d nt = true := by rfl) (hT' : nth tb T = some e := by rfl) (hk : e.knd = 2 := by rfl) (h0' : 0 ≤ a := by omega) (h1 : a ≤ p.length := by omega) : ARun P N l K (o :: r) ⟨tm, st, nx, nt⟩ tr := by
  subst h
  exact x_slSt htb k ho hx hy hg hd hlt hT' hk h0' h1
end
end Go.Proofs.YtdimidhacccdjaaDoor.Abs
namespace Go.Proofs.YtdimidhacccdjaaDoor.DiskH
open Go.RowKit Mem Abs TreeW NumP WordS DiskP DiskG

def stepW (n : Int) (c : UInt8) : Int := IntKind.u64.wrap (IntKind.u64.wrap (IntKind.u64.wrap (n * 10) + (c.toNat : Int)) - 48)
def foldW (D : List UInt8) : Int := D.foldl stepW 0
theorem wrap_small {x : Int} (h0 : 0 ≤ x) (h : x ≤ 100000000) : IntKind.u64.wrap x = x := by
  simp only [IntKind.wrap, IntKind.bits, IntKind.signed]
  simp
  omega
theorem fold_more {D : List UInt8} {k : Nat} (h : k < D.length) : foldW (D.take (k + 1)) = stepW (foldW (D.take k)) D[k] := by
  unfold foldW
  rw [List.take_succ_eq_append_getElem h, List.foldl_append]
  rfl
theorem fold_val {D : List UInt8} (hd : ∀ c ∈ D, digC c = true) (hv : valA 0 D ≤ 1000000) : foldW D = (valA 0 D : Int) := by
  have : ∀ (l : List UInt8) (a : Nat), (∀ c ∈ l, digC c = true) → valA a l ≤ 1000000 → l.foldl stepW (a : Int) = (valA a l : Int) := fun l => by
    induction l with
    | nil => exact fun a _ _ => rfl
    | cons c l ih =>
      intro a h1 h2
      have hc := h1 c (by simp)
      unfold digC at hc
      simp only [Bool.and_eq_true, decide_eq_true_eq] at hc
      have h2 : valA (a * 10 + (c.toNat - 48)) l ≤ 1000000 := h2
      have hge := valA_ge l (a * 10 + (c.toNat - 48))
      have e : stepW (a : Int) c = ((a * 10 + (c.toNat - 48) : Nat) : Int) := by
        unfold stepW
        rw [wrap_small (x := (a : Int) * 10) (by omega) (by omega), wrap_small (x := (a : Int) * 10 + (c.toNat : Int)) (by omega) (by omega), wrap_small (x := (a : Int) * 10 + (c.toNat : Int) - 48) (by omega) (by omega)]
        omega
      show l.foldl stepW (stepW (a : Int) c) = (valA (a * 10 + (c.toNat - 48)) l : Int)
      rw [e]
      exact ih _ (fun d hd => h1 d (by simp [hd])) h2
  exact this D 0 hd hv
theorem byte_wrap (c : UInt8) : IntKind.u64.wrap (c.toNat : Int) = (c.toNat : Int) := wrap_small (by omega) (by have := c.toNat_lt; omega)
def negF (neg : Bool) (n : Int) : Int := if neg = true then IntKind.u64.wrap (0 - n) else n
def xF (neg : Bool) (n : Int) : Int := IntKind.i64.wrap (negF neg n)
theorem x_in (neg : Bool) (n : Int) : InR .i64 (xF neg n) := inR_of rfl
def numV (neg : Bool) (D w r : List UInt8) : Abs.V := if D.all digC = true then .tup [.int .i64 (xF neg (foldW D)), strT r, .bool (decide (Lib.itoa (xF neg (foldW D)) = w))] else .tup [.int .i64 0, strT [], .bool false]
set_option maxRecDepth 100000 in
set_option maxHeartbeats 4000000 in
theorem numberE_v {s w r : List UInt8} {z : Int} (hw : w.length = 0) (hz : posB 59 s = z) (z0 : 0 ≤ z) (z1 : z < s.length) (hW : s.take z.toNat = w) (hR : s.drop (z + 1).toNat = r) (hs : s.length ≤ 20000) : ACalls Tryd.prog 53 [strT s] (numV false w w r) := by
  have c0 : ACalls Tryd.prog 66 [strT s, byteT 59] (.int .i64 z) := hz ▸ placeOf_v
  have lw : w.length ≤ s.length := by rw [← hW, List.length_take]; omega
  unfold numV
  cases hd : w.all digC with
  | false =>
    rw [if_neg (by decide)]
    refine fun1 tb_ok Tryd.func53 rfl Tryd.ntmps53 Tryd.results53 rfl fun N => ?_
    repeat' (first
        | with_reducible first | refine awp_seq ?_ | refine awp_region ?_ | refine awp_draw mixed ?_ | refine then_n ?_ | refine awp_skip ?_ | refine awp_block ?_ | refine awp_exit ?_ | refine awp_ret ?_ | refine awp_label ?_ | refine then_exit ?_ | refine then_ret ?_ | refine blk_n ?_ | refine blk_ret ?_ | refine blk_exit ?_ | refine blk_other rfl ?_ | refine then_k ?_
        | refine awp_true rfl ?_
        | refine awp_false rfl ?_
        | refine awp_split rfl (fun hb => ?_) (fun hb => ?_)
        | (refine isR ?_; first | refine x_far [] tb_ok rfl ?_ | refine r_nil ?_ | refine r_nild (by kernel_rfl) ?_ | refine x_call (c0 _) ?_ | refine x_call (c0) ?_ | refine x_slStE tb_ok hW ?_ | refine x_slSfE tb_ok hR ?_ | refine x_addE ?_ | refine x_add ?_ | refine x_subE ?_ | refine x_sub ?_ | refine x_mulE ?_ | refine x_mul ?_ | refine x_cat ?_ | refine x_lenF tb_ok ?_ | refine x_lenO tb_ok ?_ | refine x_lenN tb_ok ?_ | refine x_lenS ?_ | refine x_lssT ?_ | refine x_lssF ?_ | refine x_lss (fun hc => ?_) (fun hc => ?_) | refine x_gtrT ?_ | refine x_gtrF ?_ | refine x_gtr (fun hc => ?_) (fun hc => ?_) | refine x_eqlT ?_ | refine x_eqlF ?_ | refine x_eql (fun hc => ?_) (fun hc => ?_) | refine x_eqlB ?_ | refine x_eqlST ?_ | refine x_eqlSF ?_ | refine x_eqlS (fun hc => ?_) (fun hc => ?_) | refine x_eqlI ?_ | refine x_eqlN ?_ | refine x_ixS tb_ok ?_ | refine x_ixA tb_ok ?_ | refine x_slSf tb_ok ?_ | refine x_slSt tb_ok ?_ | refine x_slSm tb_ok ?_ | refine x_slFf tb_ok ?_ | refine x_slFt tb_ok ?_ | refine x_slFm tb_ok ?_ | refine x_bytes tb_ok ?_ | refine x_cv64 tb_ok ?_ | refine x_eqlA tb_ok ?_ | refine x_eqlAS tb_ok (fun hc => ?_) (fun hc => ?_))
        | refine x_ret ?_
        | refine x_nor ?_
        | exact x_le)
    refine awp_for (fun k => ⟨[(0, strT s), (5, .int .i64 z), (6, strT w), (7, strT w), (8, .int .u64 (foldW (w.take k))), (9, .int .i64 (k : Int))], [], 0, 70⟩) (fun k => k ≤ w.length ∧ ∀ j c, j < k → w[j]? = some c → digC c = true) w.length 0 (by exact x_le) ⟨Nat.zero_le _, fun j c h => absurd h (Nat.not_lt_zero _)⟩ ?_
    intro k ⟨hk, hp⟩
    by_cases hk2 : k < w.length
    · clear hd
      have e1 : w[k]? = some w[k] := by simp [hk2]
      have ft := fold_more hk2
      simp only [ft]
      have cd := isDigit_v (c := w[k])
      have hcl := w[k].toNat_lt
      have s4 := byte_wrap w[k]
      generalize w[k] = c at e1 s4 cd hcl ⊢
      generalize foldW (w.take k) = n
      obtain ⟨n4, s1⟩ : ∃ n4, IntKind.u64.wrap (n * 10) = n4 := ⟨_, rfl⟩
      obtain ⟨n3, s2⟩ : ∃ n3, IntKind.u64.wrap (n4 + (c.toNat : Int)) = n3 := ⟨_, rfl⟩
      obtain ⟨n2, s3⟩ : ∃ n2, IntKind.u64.wrap (n3 - 48) = n2 := ⟨_, rfl⟩
      have se : stepW n c = n2 := by unfold stepW; rw [s1, s2, s3]
      rw [se]
      clear ft
      cases hb : digC c with
      | false =>
        rw [hb] at cd
        repeat' (first
            | with_reducible first | refine awp_seq ?_ | refine awp_region ?_ | refine awp_draw mixed ?_ | refine then_n ?_ | refine awp_skip ?_ | refine awp_block ?_ | refine awp_exit ?_ | refine awp_ret ?_ | refine awp_label ?_ | refine then_exit ?_ | refine then_ret ?_ | refine blk_n ?_ | refine blk_ret ?_ | refine blk_exit ?_ | refine blk_other rfl ?_ | refine then_k ?_
            | refine awp_true rfl ?_
            | refine awp_false rfl ?_
            | refine awp_split rfl (fun hb => ?_) (fun hb => ?_)
            | (refine isR ?_; first | refine x_far [] tb_ok rfl ?_ | refine r_nil ?_ | refine r_nild (by kernel_rfl) ?_ | refine x_callv (cd _) ?_ | refine x_callv (cd) ?_ | refine x_call (cd _) ?_ | refine x_call (cd) ?_ | refine x_mulK ?_ | refine x_addK ?_ | refine x_subK ?_ | refine x_cv .u64 tb_ok ?_ | refine x_addE ?_ | refine x_add ?_ | refine x_subE ?_ | refine x_sub ?_ | refine x_mulE ?_ | refine x_mul ?_ | refine x_cat ?_ | refine x_lenF tb_ok ?_ | refine x_lenO tb_ok ?_ | refine x_lenN tb_ok ?_ | refine x_lenS ?_ | refine x_lssT ?_ | refine x_lssF ?_ | refine x_lss (fun hc => ?_) (fun hc => ?_) | refine x_gtrT ?_ | refine x_gtrF ?_ | refine x_gtr (fun hc => ?_) (fun hc => ?_) | refine x_eqlT ?_ | refine x_eqlF ?_ | refine x_eql (fun hc => ?_) (fun hc => ?_) | refine x_eqlB ?_ | refine x_eqlST ?_ | refine x_eqlSF ?_ | refine x_eqlS (fun hc => ?_) (fun hc => ?_) | refine x_eqlI ?_ | refine x_eqlN ?_ | refine x_ixS tb_ok ?_ | refine x_ixA tb_ok ?_ | refine x_slSf tb_ok ?_ | refine x_slSt tb_ok ?_ | refine x_slSm tb_ok ?_ | refine x_slFf tb_ok ?_ | refine x_slFt tb_ok ?_ | refine x_slFm tb_ok ?_ | refine x_bytes tb_ok ?_ | refine x_cv64 tb_ok ?_ | refine x_eqlA tb_ok ?_ | refine x_eqlAS tb_ok (fun hc => ?_) (fun hc => ?_))
            | refine x_ret ?_
            | refine x_nor ?_
            | exact x_le)
        rfl
      | true =>
        rw [hb] at cd
        repeat' (first
            | with_reducible first | refine awp_seq ?_ | refine awp_region ?_ | refine awp_draw mixed ?_ | refine then_n ?_ | refine awp_skip ?_ | refine awp_block ?_ | refine awp_exit ?_ | refine awp_ret ?_ | refine awp_label ?_ | refine then_exit ?_ | refine then_ret ?_ | refine blk_n ?_ | refine blk_ret ?_ | refine blk_exit ?_ | refine blk_other rfl ?_ | refine then_k ?_
            | refine awp_true rfl ?_
            | refine awp_false rfl ?_
            | refine awp_split rfl (fun hb => ?_) (fun hb => ?_)
            | (refine isR ?_; first | refine x_far [] tb_ok rfl ?_ | refine r_nil ?_ | refine r_nild (by kernel_rfl) ?_ | refine x_callv (cd _) ?_ | refine x_callv (cd) ?_ | refine x_call (cd _) ?_ | refine x_call (cd) ?_ | refine x_mulK ?_ | refine x_addK ?_ | refine x_subK ?_ | refine x_cv .u64 tb_ok ?_ | refine x_addE ?_ | refine x_add ?_ | refine x_subE ?_ | refine x_sub ?_ | refine x_mulE ?_ | refine x_mul ?_ | refine x_cat ?_ | refine x_lenF tb_ok ?_ | refine x_lenO tb_ok ?_ | refine x_lenN tb_ok ?_ | refine x_lenS ?_ | refine x_lssT ?_ | refine x_lssF ?_ | refine x_lss (fun hc => ?_) (fun hc => ?_) | refine x_gtrT ?_ | refine x_gtrF ?_ | refine x_gtr (fun hc => ?_) (fun hc => ?_) | refine x_eqlT ?_ | refine x_eqlF ?_ | refine x_eql (fun hc => ?_) (fun hc => ?_) | refine x_eqlB ?_ | refine x_eqlST ?_ | refine x_eqlSF ?_ | refine x_eqlS (fun hc => ?_) (fun hc => ?_) | refine x_eqlI ?_ | refine x_eqlN ?_ | refine x_ixS tb_ok ?_ | refine x_ixA tb_ok ?_ | refine x_slSf tb_ok ?_ | refine x_slSt tb_ok ?_ | refine x_slSm tb_ok ?_ | refine x_slFf tb_ok ?_ | refine x_slFt tb_ok ?_ | refine x_slFm tb_ok ?_ | refine x_bytes tb_ok ?_ | refine x_cv64 tb_ok ?_ | refine x_eqlA tb_ok ?_ | refine x_eqlAS tb_ok (fun hc => ?_) (fun hc => ?_))
            | refine x_ret ?_
            | refine x_nor ?_
            | exact x_le)
        refine ⟨⟨by omega, fun j y hj hy => ?_⟩, by omega, (by exact x_le)⟩
        rcases Nat.lt_succ_iff_lt_or_eq.1 hj with h | rfl
        · exact hp j y h hy
        · rw [e1] at hy; cases hy; exact hb
    · exfalso
      have : w.all digC = true := List.all_eq_true.2 fun x hx => by
        obtain ⟨i, hi⟩ := List.mem_iff_getElem?.1 hx
        exact hp i x (by have := (List.getElem?_eq_some_iff.1 hi).1; omega) hi
      rw [hd] at this; cases this
  | true =>
    rw [if_pos rfl]
    have ha := List.all_eq_true.1 hd
    refine fun1 tb_ok Tryd.func53 rfl Tryd.ntmps53 Tryd.results53 rfl fun N => ?_
    repeat' (first
        | with_reducible first | refine awp_seq ?_ | refine awp_region ?_ | refine awp_draw mixed ?_ | refine then_n ?_ | refine awp_skip ?_ | refine awp_block ?_ | refine awp_exit ?_ | refine awp_ret ?_ | refine awp_label ?_ | refine then_exit ?_ | refine then_ret ?_ | refine blk_n ?_ | refine blk_ret ?_ | refine blk_exit ?_ | refine blk_other rfl ?_ | refine then_k ?_
        | refine awp_true rfl ?_
        | refine awp_false rfl ?_
        | refine awp_split rfl (fun hb => ?_) (fun hb => ?_)
        | (refine isR ?_; first | refine x_far [] tb_ok rfl ?_ | refine r_nil ?_ | refine r_nild (by kernel_rfl) ?_ | refine x_call (c0 _) ?_ | refine x_call (c0) ?_ | refine x_slStE tb_ok hW ?_ | refine x_slSfE tb_ok hR ?_ | refine x_addE ?_ | refine x_add ?_ | refine x_subE ?_ | refine x_sub ?_ | refine x_mulE ?_ | refine x_mul ?_ | refine x_cat ?_ | refine x_lenF tb_ok ?_ | refine x_lenO tb_ok ?_ | refine x_lenN tb_ok ?_ | refine x_lenS ?_ | refine x_lssT ?_ | refine x_lssF ?_ | refine x_lss (fun hc => ?_) (fun hc => ?_) | refine x_gtrT ?_ | refine x_gtrF ?_ | refine x_gtr (fun hc => ?_) (fun hc => ?_) | refine x_eqlT ?_ | refine x_eqlF ?_ | refine x_eql (fun hc => ?_) (fun hc => ?_) | refine x_eqlB ?_ | refine x_eqlST ?_ | refine x_eqlSF ?_ | refine x_eqlS (fun hc => ?_) (fun hc => ?_) | refine x_eqlI ?_ | refine x_eqlN ?_ | refine x_ixS tb_ok ?_ | refine x_ixA tb_ok ?_ | refine x_slSf tb_ok ?_ | refine x_slSt tb_ok ?_ | refine x_slSm tb_ok ?_ | refine x_slFf tb_ok ?_ | refine x_slFt tb_ok ?_ | refine x_slFm tb_ok ?_ | refine x_bytes tb_ok ?_ | refine x_cv64 tb_ok ?_ | refine x_eqlA tb_ok ?_ | refine x_eqlAS tb_ok (fun hc => ?_) (fun hc => ?_))
        | refine x_ret ?_
        | refine x_nor ?_
        | exact x_le)
    refine awp_for (fun k => ⟨[(0, strT s), (5, .int .i64 z), (6, strT w), (7, strT w), (8, .int .u64 (foldW (w.take k))), (9, .int .i64 (k : Int))], [], 0, 70⟩) (fun k => k ≤ w.length) w.length 0 (by exact x_le) (Nat.zero_le _) ?_
    intro k hk
    by_cases hk2 : k < w.length
    · have hb := ha w[k] (List.getElem_mem hk2)
      clear hd ha
      have e1 : w[k]? = some w[k] := by simp [hk2]
      have ft := fold_more hk2
      simp only [ft]
      have cd := isDigit_v (c := w[k])
      have hcl := w[k].toNat_lt
      have s4 := byte_wrap w[k]
      rw [hb] at cd
      generalize w[k] = c at e1 s4 cd hcl ⊢
      generalize foldW (w.take k) = n
      obtain ⟨n4, s1⟩ : ∃ n4, IntKind.u64.wrap (n * 10) = n4 := ⟨_, rfl⟩
      obtain ⟨n3, s2⟩ : ∃ n3, IntKind.u64.wrap (n4 + (c.toNat : Int)) = n3 := ⟨_, rfl⟩
      obtain ⟨n2, s3⟩ : ∃ n2, IntKind.u64.wrap (n3 - 48) = n2 := ⟨_, rfl⟩
      have se : stepW n c = n2 := by unfold stepW; rw [s1, s2, s3]
      rw [se]
      clear ft
      repeat' (first
          | with_reducible first | refine awp_seq ?_ | refine awp_region ?_ | refine awp_draw mixed ?_ | refine then_n ?_ | refine awp_skip ?_ | refine awp_block ?_ | refine awp_exit ?_ | refine awp_ret ?_ | refine awp_label ?_ | refine then_exit ?_ | refine then_ret ?_ | refine blk_n ?_ | refine blk_ret ?_ | refine blk_exit ?_ | refine blk_other rfl ?_ | refine then_k ?_
          | refine awp_true rfl ?_
          | refine awp_false rfl ?_
          | refine awp_split rfl (fun hb => ?_) (fun hb => ?_)
          | (refine isR ?_; first | refine x_far [] tb_ok rfl ?_ | refine r_nil ?_ | refine r_nild (by kernel_rfl) ?_ | refine x_callv (cd _) ?_ | refine x_callv (cd) ?_ | refine x_call (cd _) ?_ | refine x_call (cd) ?_ | refine x_mulK ?_ | refine x_addK ?_ | refine x_subK ?_ | refine x_cv .u64 tb_ok ?_ | refine x_addE ?_ | refine x_add ?_ | refine x_subE ?_ | refine x_sub ?_ | refine x_mulE ?_ | refine x_mul ?_ | refine x_cat ?_ | refine x_lenF tb_ok ?_ | refine x_lenO tb_ok ?_ | refine x_lenN tb_ok ?_ | refine x_lenS ?_ | refine x_lssT ?_ | refine x_lssF ?_ | refine x_lss (fun hc => ?_) (fun hc => ?_) | refine x_gtrT ?_ | refine x_gtrF ?_ | refine x_gtr (fun hc => ?_) (fun hc => ?_) | refine x_eqlT ?_ | refine x_eqlF ?_ | refine x_eql (fun hc => ?_) (fun hc => ?_) | refine x_eqlB ?_ | refine x_eqlST ?_ | refine x_eqlSF ?_ | refine x_eqlS (fun hc => ?_) (fun hc => ?_) | refine x_eqlI ?_ | refine x_eqlN ?_ | refine x_ixS tb_ok ?_ | refine x_ixA tb_ok ?_ | refine x_slSf tb_ok ?_ | refine x_slSt tb_ok ?_ | refine x_slSm tb_ok ?_ | refine x_slFf tb_ok ?_ | refine x_slFt tb_ok ?_ | refine x_slFm tb_ok ?_ | refine x_bytes tb_ok ?_ | refine x_cv64 tb_ok ?_ | refine x_eqlA tb_ok ?_ | refine x_eqlAS tb_ok (fun hc => ?_) (fun hc => ?_))
          | refine x_ret ?_
          | refine x_nor ?_
          | exact x_le)
      refine ⟨by omega, by omega, ?_⟩
      exact (by exact x_le)
    · have ht : w.take k = w := List.take_of_length_le (by omega)
      simp only [ht]
      generalize foldW w = n at *
      have hx := x_in false n
      have w1 : IntKind.i64.wrap (negF false n) = xF false n := rfl
      have w1 : IntKind.i64.wrap n = xF false n := rfl
      have c1 := decimal_v hx
      generalize xF false n = x at *
      clear hd ha ht
      by_cases hE : Lib.itoa x = w
      · rw [decide_eq_true hE]
        repeat' (first
            | with_reducible first | refine awp_seq ?_ | refine awp_region ?_ | refine awp_draw mixed ?_ | refine then_n ?_ | refine awp_skip ?_ | refine awp_block ?_ | refine awp_exit ?_ | refine awp_ret ?_ | refine awp_label ?_ | refine then_exit ?_ | refine then_ret ?_ | refine blk_n ?_ | refine blk_ret ?_ | refine blk_exit ?_ | refine blk_other rfl ?_ | refine then_k ?_
            | refine awp_true rfl ?_
            | refine awp_false rfl ?_
            | refine awp_split rfl (fun hb => ?_) (fun hb => ?_)
            | (refine isR ?_; first | refine x_far [] tb_ok rfl ?_ | refine r_nil ?_ | refine r_nild (by kernel_rfl) ?_ | refine x_call (c1 _) ?_ | refine x_call (c1) ?_ | refine x_slStE tb_ok hW ?_ | refine x_slSfE tb_ok hR ?_ | refine x_subK ?_ | refine x_cv .i64 tb_ok ?_ | refine x_addE ?_ | refine x_add ?_ | refine x_subE ?_ | refine x_sub ?_ | refine x_mulE ?_ | refine x_mul ?_ | refine x_cat ?_ | refine x_lenF tb_ok ?_ | refine x_lenO tb_ok ?_ | refine x_lenN tb_ok ?_ | refine x_lenS ?_ | refine x_lssT ?_ | refine x_lssF ?_ | refine x_lss (fun hc => ?_) (fun hc => ?_) | refine x_gtrT ?_ | refine x_gtrF ?_ | refine x_gtr (fun hc => ?_) (fun hc => ?_) | refine x_eqlT ?_ | refine x_eqlF ?_ | refine x_eql (fun hc => ?_) (fun hc => ?_) | refine x_eqlB ?_ | refine x_eqlST ?_ | refine x_eqlSF ?_ | refine x_eqlS (fun hc => ?_) (fun hc => ?_) | refine x_eqlI ?_ | refine x_eqlN ?_ | refine x_ixS tb_ok ?_ | refine x_ixA tb_ok ?_ | refine x_slSf tb_ok ?_ | refine x_slSt tb_ok ?_ | refine x_slSm tb_ok ?_ | refine x_slFf tb_ok ?_ | refine x_slFt tb_ok ?_ | refine x_slFm tb_ok ?_ | refine x_bytes tb_ok ?_ | refine x_cv64 tb_ok ?_ | refine x_eqlA tb_ok ?_ | refine x_eqlAS tb_ok (fun hc => ?_) (fun hc => ?_))
            | refine x_ret ?_
            | refine x_nor ?_
            | exact x_le)
        rfl
      · rw [decide_eq_false hE]
        repeat' (first
            | with_reducible first | refine awp_seq ?_ | refine awp_region ?_ | refine awp_draw mixed ?_ | refine then_n ?_ | refine awp_skip ?_ | refine awp_block ?_ | refine awp_exit ?_ | refine awp_ret ?_ | refine awp_label ?_ | refine then_exit ?_ | refine then_ret ?_ | refine blk_n ?_ | refine blk_ret ?_ | refine blk_exit ?_ | refine blk_other rfl ?_ | refine then_k ?_
            | refine awp_true rfl ?_
            | refine awp_false rfl ?_
            | refine awp_split rfl (fun hb => ?_) (fun hb => ?_)
            | (refine isR ?_; first | refine x_far [] tb_ok rfl ?_ | refine r_nil ?_ | refine r_nild (by kernel_rfl) ?_ | refine x_call (c1 _) ?_ | refine x_call (c1) ?_ | refine x_slStE tb_ok hW ?_ | refine x_slSfE tb_ok hR ?_ | refine x_subK ?_ | refine x_cv .i64 tb_ok ?_ | refine x_addE ?_ | refine x_add ?_ | refine x_subE ?_ | refine x_sub ?_ | refine x_mulE ?_ | refine x_mul ?_ | refine x_cat ?_ | refine x_lenF tb_ok ?_ | refine x_lenO tb_ok ?_ | refine x_lenN tb_ok ?_ | refine x_lenS ?_ | refine x_lssT ?_ | refine x_lssF ?_ | refine x_lss (fun hc => ?_) (fun hc => ?_) | refine x_gtrT ?_ | refine x_gtrF ?_ | refine x_gtr (fun hc => ?_) (fun hc => ?_) | refine x_eqlT ?_ | refine x_eqlF ?_ | refine x_eql (fun hc => ?_) (fun hc => ?_) | refine x_eqlB ?_ | refine x_eqlST ?_ | refine x_eqlSF ?_ | refine x_eqlS (fun hc => ?_) (fun hc => ?_) | refine x_eqlI ?_ | refine x_eqlN ?_ | refine x_ixS tb_ok ?_ | refine x_ixA tb_ok ?_ | refine x_slSf tb_ok ?_ | refine x_slSt tb_ok ?_ | refine x_slSm tb_ok ?_ | refine x_slFf tb_ok ?_ | refine x_slFt tb_ok ?_ | refine x_slFm tb_ok ?_ | refine x_bytes tb_ok ?_ | refine x_cv64 tb_ok ?_ | refine x_eqlA tb_ok ?_ | refine x_eqlAS tb_ok (fun hc => ?_) (fun hc => ?_))
            | refine x_ret ?_
            | refine x_nor ?_
            | exact x_le)
        rfl
set_option maxRecDepth 100000 in
set_option maxHeartbeats 4000000 in
theorem numberP_v {s w r : List UInt8} {z : Int} {b0 : UInt8} (hw : w[0]? = some b0) (hc : b0 ≠ 45) (hz : posB 59 s = z) (z0 : 0 ≤ z) (z1 : z < s.length) (hW : s.take z.toNat = w) (hR : s.drop (z + 1).toNat = r) (hs : s.length ≤ 20000) : ACalls Tryd.prog 53 [strT s] (numV false w w r) := by
  have c0 : ACalls Tryd.prog 66 [strT s, byteT 59] (.int .i64 z) := hz ▸ placeOf_v
  have lw : w.length ≤ s.length := by rw [← hW, List.length_take]; omega
  have hwl : 0 < w.length := (List.getElem?_eq_some_iff.1 hw).1
  have hcn : ¬ b0.toNat = 45 := fun e => hc (UInt8.toNat_inj.1 e)
  unfold numV
  cases hd : w.all digC with
  | false =>
    rw [if_neg (by decide)]
    refine fun1 tb_ok Tryd.func53 rfl Tryd.ntmps53 Tryd.results53 rfl fun N => ?_
    repeat' (first
        | with_reducible first | refine awp_seq ?_ | refine awp_region ?_ | refine awp_draw mixed ?_ | refine then_n ?_ | refine awp_skip ?_ | refine awp_block ?_ | refine awp_exit ?_ | refine awp_ret ?_ | refine awp_label ?_ | refine then_exit ?_ | refine then_ret ?_ | refine blk_n ?_ | refine blk_ret ?_ | refine blk_exit ?_ | refine blk_other rfl ?_ | refine then_k ?_
        | refine awp_true rfl ?_
        | refine awp_false rfl ?_
        | refine awp_split rfl (fun hb => ?_) (fun hb => ?_)
        | (refine isR ?_; first | refine x_far [] tb_ok rfl ?_ | refine r_nil ?_ | refine r_nild (by kernel_rfl) ?_ | refine x_call (c0 _) ?_ | refine x_call (c0) ?_ | refine x_slStE tb_ok hW ?_ | refine x_slSfE tb_ok hR ?_ | refine x_addE ?_ | refine x_add ?_ | refine x_subE ?_ | refine x_sub ?_ | refine x_mulE ?_ | refine x_mul ?_ | refine x_cat ?_ | refine x_lenF tb_ok ?_ | refine x_lenO tb_ok ?_ | refine x_lenN tb_ok ?_ | refine x_lenS ?_ | refine x_lssT ?_ | refine x_lssF ?_ | refine x_lss (fun hc => ?_) (fun hc => ?_) | refine x_gtrT ?_ | refine x_gtrF ?_ | refine x_gtr (fun hc => ?_) (fun hc => ?_) | refine x_eqlT ?_ | refine x_eqlF ?_ | refine x_eql (fun hc => ?_) (fun hc => ?_) | refine x_eqlB ?_ | refine x_eqlST ?_ | refine x_eqlSF ?_ | refine x_eqlS (fun hc => ?_) (fun hc => ?_) | refine x_eqlI ?_ | refine x_eqlN ?_ | refine x_ixS tb_ok ?_ | refine x_ixA tb_ok ?_ | refine x_slSf tb_ok ?_ | refine x_slSt tb_ok ?_ | refine x_slSm tb_ok ?_ | refine x_slFf tb_ok ?_ | refine x_slFt tb_ok ?_ | refine x_slFm tb_ok ?_ | refine x_bytes tb_ok ?_ | refine x_cv64 tb_ok ?_ | refine x_eqlA tb_ok ?_ | refine x_eqlAS tb_ok (fun hc => ?_) (fun hc => ?_))
        | refine x_ret ?_
        | refine x_nor ?_
        | exact x_le)
    refine awp_for (fun k => ⟨[(0, strT s), (5, .int .i64 z), (6, strT w), (7, strT w), (8, .int .u64 (foldW (w.take k))), (9, .int .i64 (k : Int))], [], 0, 70⟩) (fun k => k ≤ w.length ∧ ∀ j c, j < k → w[j]? = some c → digC c = true) w.length 0 (by exact x_le) ⟨Nat.zero_le _, fun j c h => absurd h (Nat.not_lt_zero _)⟩ ?_
    intro k ⟨hk, hp⟩
    by_cases hk2 : k < w.length
    · clear hd
      have e1 : w[k]? = some w[k] := by simp [hk2]
      have ft := fold_more hk2
      simp only [ft]
      have cd := isDigit_v (c := w[k])
      have hcl := w[k].toNat_lt
      have s4 := byte_wrap w[k]
      generalize w[k] = c at e1 s4 cd hcl ⊢
      generalize foldW (w.take k) = n
      obtain ⟨n4, s1⟩ : ∃ n4, IntKind.u64.wrap (n * 10) = n4 := ⟨_, rfl⟩
      obtain ⟨n3, s2⟩ : ∃ n3, IntKind.u64.wrap (n4 + (c.toNat : Int)) = n3 := ⟨_, rfl⟩
      obtain ⟨n2, s3⟩ : ∃ n2, IntKind.u64.wrap (n3 - 48) = n2 := ⟨_, rfl⟩
      have se : stepW n c = n2 := by unfold stepW; rw [s1, s2, s3]
      rw [se]
      clear ft
      cases hb : digC c with
      | false =>
        rw [hb] at cd
        repeat' (first
            | with_reducible first | refine awp_seq ?_ | refine awp_region ?_ | refine awp_draw mixed ?_ | refine then_n ?_ | refine awp_skip ?_ | refine awp_block ?_ | refine awp_exit ?_ | refine awp_ret ?_ | refine awp_label ?_ | refine then_exit ?_ | refine then_ret ?_ | refine blk_n ?_ | refine blk_ret ?_ | refine blk_exit ?_ | refine blk_other rfl ?_ | refine then_k ?_
            | refine awp_true rfl ?_
            | refine awp_false rfl ?_
            | refine awp_split rfl (fun hb => ?_) (fun hb => ?_)
            | (refine isR ?_; first | refine x_far [] tb_ok rfl ?_ | refine r_nil ?_ | refine r_nild (by kernel_rfl) ?_ | refine x_callv (cd _) ?_ | refine x_callv (cd) ?_ | refine x_call (cd _) ?_ | refine x_call (cd) ?_ | refine x_mulK ?_ | refine x_addK ?_ | refine x_subK ?_ | refine x_cv .u64 tb_ok ?_ | refine x_addE ?_ | refine x_add ?_ | refine x_subE ?_ | refine x_sub ?_ | refine x_mulE ?_ | refine x_mul ?_ | refine x_cat ?_ | refine x_lenF tb_ok ?_ | refine x_lenO tb_ok ?_ | refine x_lenN tb_ok ?_ | refine x_lenS ?_ | refine x_lssT ?_ | refine x_lssF ?_ | refine x_lss (fun hc => ?_) (fun hc => ?_) | refine x_gtrT ?_ | refine x_gtrF ?_ | refine x_gtr (fun hc => ?_) (fun hc => ?_) | refine x_eqlT ?_ | refine x_eqlF ?_ | refine x_eql (fun hc => ?_) (fun hc => ?_) | refine x_eqlB ?_ | refine x_eqlST ?_ | refine x_eqlSF ?_ | refine x_eqlS (fun hc => ?_) (fun hc => ?_) | refine x_eqlI ?_ | refine x_eqlN ?_ | refine x_ixS tb_ok ?_ | refine x_ixA tb_ok ?_ | refine x_slSf tb_ok ?_ | refine x_slSt tb_ok ?_ | refine x_slSm tb_ok ?_ | refine x_slFf tb_ok ?_ | refine x_slFt tb_ok ?_ | refine x_slFm tb_ok ?_ | refine x_bytes tb_ok ?_ | refine x_cv64 tb_ok ?_ | refine x_eqlA tb_ok ?_ | refine x_eqlAS tb_ok (fun hc => ?_) (fun hc => ?_))
            | refine x_ret ?_
            | refine x_nor ?_
            | exact x_le)
        rfl
      | true =>
        rw [hb] at cd
        repeat' (first
            | with_reducible first | refine awp_seq ?_ | refine awp_region ?_ | refine awp_draw mixed ?_ | refine then_n ?_ | refine awp_skip ?_ | refine awp_block ?_ | refine awp_exit ?_ | refine awp_ret ?_ | refine awp_label ?_ | refine then_exit ?_ | refine then_ret ?_ | refine blk_n ?_ | refine blk_ret ?_ | refine blk_exit ?_ | refine blk_other rfl ?_ | refine then_k ?_
            | refine awp_true rfl ?_
            | refine awp_false rfl ?_
            | refine awp_split rfl (fun hb => ?_) (fun hb => ?_)
            | (refine isR ?_; first | refine x_far [] tb_ok rfl ?_ | refine r_nil ?_ | refine r_nild (by kernel_rfl) ?_ | refine x_callv (cd _) ?_ | refine x_callv (cd) ?_ | refine x_call (cd _) ?_ | refine x_call (cd) ?_ | refine x_mulK ?_ | refine x_addK ?_ | refine x_subK ?_ | refine x_cv .u64 tb_ok ?_ | refine x_addE ?_ | refine x_add ?_ | refine x_subE ?_ | refine x_sub ?_ | refine x_mulE ?_ | refine x_mul ?_ | refine x_cat ?_ | refine x_lenF tb_ok ?_ | refine x_lenO tb_ok ?_ | refine x_lenN tb_ok ?_ | refine x_lenS ?_ | refine x_lssT ?_ | refine x_lssF ?_ | refine x_lss (fun hc => ?_) (fun hc => ?_) | refine x_gtrT ?_ | refine x_gtrF ?_ | refine x_gtr (fun hc => ?_) (fun hc => ?_) | refine x_eqlT ?_ | refine x_eqlF ?_ | refine x_eql (fun hc => ?_) (fun hc => ?_) | refine x_eqlB ?_ | refine x_eqlST ?_ | refine x_eqlSF ?_ | refine x_eqlS (fun hc => ?_) (fun hc => ?_) | refine x_eqlI ?_ | refine x_eqlN ?_ | refine x_ixS tb_ok ?_ | refine x_ixA tb_ok ?_ | refine x_slSf tb_ok ?_ | refine x_slSt tb_ok ?_ | refine x_slSm tb_ok ?_ | refine x_slFf tb_ok ?_ | refine x_slFt tb_ok ?_ | refine x_slFm tb_ok ?_ | refine x_bytes tb_ok ?_ | refine x_cv64 tb_ok ?_ | refine x_eqlA tb_ok ?_ | refine x_eqlAS tb_ok (fun hc => ?_) (fun hc => ?_))
            | refine x_ret ?_
            | refine x_nor ?_
            | exact x_le)
        refine ⟨⟨by omega, fun j y hj hy => ?_⟩, by omega, (by exact x_le)⟩
        rcases Nat.lt_succ_iff_lt_or_eq.1 hj with h | rfl
        · exact hp j y h hy
        · rw [e1] at hy; cases hy; exact hb
    · exfalso
      have : w.all digC = true := List.all_eq_true.2 fun x hx => by
        obtain ⟨i, hi⟩ := List.mem_iff_getElem?.1 hx
        exact hp i x (by have := (List.getElem?_eq_some_iff.1 hi).1; omega) hi
      rw [hd] at this; cases this
  | true =>
    rw [if_pos rfl]
    have ha := List.all_eq_true.1 hd
    refine fun1 tb_ok Tryd.func53 rfl Tryd.ntmps53 Tryd.results53 rfl fun N => ?_
    repeat' (first
        | with_reducible first | refine awp_seq ?_ | refine awp_region ?_ | refine awp_draw mixed ?_ | refine then_n ?_ | refine awp_skip ?_ | refine awp_block ?_ | refine awp_exit ?_ | refine awp_ret ?_ | refine awp_label ?_ | refine then_exit ?_ | refine then_ret ?_ | refine blk_n ?_ | refine blk_ret ?_ | refine blk_exit ?_ | refine blk_other rfl ?_ | refine then_k ?_
        | refine awp_true rfl ?_
        | refine awp_false rfl ?_
        | refine awp_split rfl (fun hb => ?_) (fun hb => ?_)
        | (refine isR ?_; first | refine x_far [] tb_ok rfl ?_ | refine r_nil ?_ | refine r_nild (by kernel_rfl) ?_ | refine x_call (c0 _) ?_ | refine x_call (c0) ?_ | refine x_slStE tb_ok hW ?_ | refine x_slSfE tb_ok hR ?_ | refine x_addE ?_ | refine x_add ?_ | refine x_subE ?_ | refine x_sub ?_ | refine x_mulE ?_ | refine x_mul ?_ | refine x_cat ?_ | refine x_lenF tb_ok ?_ | refine x_lenO tb_ok ?_ | refine x_lenN tb_ok ?_ | refine x_lenS ?_ | refine x_lssT ?_ | refine x_lssF ?_ | refine x_lss (fun hc => ?_) (fun hc => ?_) | refine x_gtrT ?_ | refine x_gtrF ?_ | refine x_gtr (fun hc => ?_) (fun hc => ?_) | refine x_eqlT ?_ | refine x_eqlF ?_ | refine x_eql (fun hc => ?_) (fun hc => ?_) | refine x_eqlB ?_ | refine x_eqlST ?_ | refine x_eqlSF ?_ | refine x_eqlS (fun hc => ?_) (fun hc => ?_) | refine x_eqlI ?_ | refine x_eqlN ?_ | refine x_ixS tb_ok ?_ | refine x_ixA tb_ok ?_ | refine x_slSf tb_ok ?_ | refine x_slSt tb_ok ?_ | refine x_slSm tb_ok ?_ | refine x_slFf tb_ok ?_ | refine x_slFt tb_ok ?_ | refine x_slFm tb_ok ?_ | refine x_bytes tb_ok ?_ | refine x_cv64 tb_ok ?_ | refine x_eqlA tb_ok ?_ | refine x_eqlAS tb_ok (fun hc => ?_) (fun hc => ?_))
        | refine x_ret ?_
        | refine x_nor ?_
        | exact x_le)
    refine awp_for (fun k => ⟨[(0, strT s), (5, .int .i64 z), (6, strT w), (7, strT w), (8, .int .u64 (foldW (w.take k))), (9, .int .i64 (k : Int))], [], 0, 70⟩) (fun k => k ≤ w.length) w.length 0 (by exact x_le) (Nat.zero_le _) ?_
    intro k hk
    by_cases hk2 : k < w.length
    · have hb := ha w[k] (List.getElem_mem hk2)
      clear hd ha
      have e1 : w[k]? = some w[k] := by simp [hk2]
      have ft := fold_more hk2
      simp only [ft]
      have cd := isDigit_v (c := w[k])
      have hcl := w[k].toNat_lt
      have s4 := byte_wrap w[k]
      rw [hb] at cd
      generalize w[k] = c at e1 s4 cd hcl ⊢
      generalize foldW (w.take k) = n
      obtain ⟨n4, s1⟩ : ∃ n4, IntKind.u64.wrap (n * 10) = n4 := ⟨_, rfl⟩
      obtain ⟨n3, s2⟩ : ∃ n3, IntKind.u64.wrap (n4 + (c.toNat : Int)) = n3 := ⟨_, rfl⟩
      obtain ⟨n2, s3⟩ : ∃ n2, IntKind.u64.wrap (n3 - 48) = n2 := ⟨_, rfl⟩
      have se : stepW n c = n2 := by unfold stepW; rw [s1, s2, s3]
      rw [se]
      clear ft
      repeat' (first
          | with_reducible first | refine awp_seq ?_ | refine awp_region ?_ | refine awp_draw mixed ?_ | refine then_n ?_ | refine awp_skip ?_ | refine awp_block ?_ | refine awp_exit ?_ | refine awp_ret ?_ | refine awp_label ?_ | refine then_exit ?_ | refine then_ret ?_ | refine blk_n ?_ | refine blk_ret ?_ | refine blk_exit ?_ | refine blk_other rfl ?_ | refine then_k ?_
          | refine awp_true rfl ?_
          | refine awp_false rfl ?_
          | refine awp_split rfl (fun hb => ?_) (fun hb => ?_)
          | (refine isR ?_; first | refine x_far [] tb_ok rfl ?_ | refine r_nil ?_ | refine r_nild (by kernel_rfl) ?_ | refine x_callv (cd _) ?_ | refine x_callv (cd) ?_ | refine x_call (cd _) ?_ | refine x_call (cd) ?_ | refine x_mulK ?_ | refine x_addK ?_ | refine x_subK ?_ | refine x_cv .u64 tb_ok ?_ | refine x_addE ?_ | refine x_add ?_ | refine x_subE ?_ | refine x_sub ?_ | refine x_mulE ?_ | refine x_mul ?_ | refine x_cat ?_ | refine x_lenF tb_ok ?_ | refine x_lenO tb_ok ?_ | refine x_lenN tb_ok ?_ | refine x_lenS ?_ | refine x_lssT ?_ | refine x_lssF ?_ | refine x_lss (fun hc => ?_) (fun hc => ?_) | refine x_gtrT ?_ | refine x_gtrF ?_ | refine x_gtr (fun hc => ?_) (fun hc => ?_) | refine x_eqlT ?_ | refine x_eqlF ?_ | refine x_eql (fun hc => ?_) (fun hc => ?_) | refine x_eqlB ?_ | refine x_eqlST ?_ | refine x_eqlSF ?_ | refine x_eqlS (fun hc => ?_) (fun hc => ?_) | refine x_eqlI ?_ | refine x_eqlN ?_ | refine x_ixS tb_ok ?_ | refine x_ixA tb_ok ?_ | refine x_slSf tb_ok ?_ | refine x_slSt tb_ok ?_ | refine x_slSm tb_ok ?_ | refine x_slFf tb_ok ?_ | refine x_slFt tb_ok ?_ | refine x_slFm tb_ok ?_ | refine x_bytes tb_ok ?_ | refine x_cv64 tb_ok ?_ | refine x_eqlA tb_ok ?_ | refine x_eqlAS tb_ok (fun hc => ?_) (fun hc => ?_))
          | refine x_ret ?_
          | refine x_nor ?_
          | exact x_le)
      refine ⟨by omega, by omega, ?_⟩
      exact (by exact x_le)
    · have ht : w.take k = w := List.take_of_length_le (by omega)
      simp only [ht]
      generalize foldW w = n at *
      have hx := x_in false n
      have w1 : IntKind.i64.wrap (negF false n) = xF false n := rfl
      have w1 : IntKind.i64.wrap n = xF false n := rfl
      have c1 := decimal_v hx
      generalize xF false n = x at *
      clear hd ha ht
      by_cases hE : Lib.itoa x = w
      · rw [decide_eq_true hE]
        repeat' (first
            | with_reducible first | refine awp_seq ?_ | refine awp_region ?_ | refine awp_draw mixed ?_ | refine then_n ?_ | refine awp_skip ?_ | refine awp_block ?_ | refine awp_exit ?_ | refine awp_ret ?_ | refine awp_label ?_ | refine then_exit ?_ | refine then_ret ?_ | refine blk_n ?_ | refine blk_ret ?_ | refine blk_exit ?_ | refine blk_other rfl ?_ | refine then_k ?_
            | refine awp_true rfl ?_
            | refine awp_false rfl ?_
            | refine awp_split rfl (fun hb => ?_) (fun hb => ?_)
            | (refine isR ?_; first | refine x_far [] tb_ok rfl ?_ | refine r_nil ?_ | refine r_nild (by kernel_rfl) ?_ | refine x_call (c1 _) ?_ | refine x_call (c1) ?_ | refine x_slStE tb_ok hW ?_ | refine x_slSfE tb_ok hR ?_ | refine x_subK ?_ | refine x_cv .i64 tb_ok ?_ | refine x_addE ?_ | refine x_add ?_ | refine x_subE ?_ | refine x_sub ?_ | refine x_mulE ?_ | refine x_mul ?_ | refine x_cat ?_ | refine x_lenF tb_ok ?_ | refine x_lenO tb_ok ?_ | refine x_lenN tb_ok ?_ | refine x_lenS ?_ | refine x_lssT ?_ | refine x_lssF ?_ | refine x_lss (fun hc => ?_) (fun hc => ?_) | refine x_gtrT ?_ | refine x_gtrF ?_ | refine x_gtr (fun hc => ?_) (fun hc => ?_) | refine x_eqlT ?_ | refine x_eqlF ?_ | refine x_eql (fun hc => ?_) (fun hc => ?_) | refine x_eqlB ?_ | refine x_eqlST ?_ | refine x_eqlSF ?_ | refine x_eqlS (fun hc => ?_) (fun hc => ?_) | refine x_eqlI ?_ | refine x_eqlN ?_ | refine x_ixS tb_ok ?_ | refine x_ixA tb_ok ?_ | refine x_slSf tb_ok ?_ | refine x_slSt tb_ok ?_ | refine x_slSm tb_ok ?_ | refine x_slFf tb_ok ?_ | refine x_slFt tb_ok ?_ | refine x_slFm tb_ok ?_ | refine x_bytes tb_ok ?_ | refine x_cv64 tb_ok ?_ | refine x_eqlA tb_ok ?_ | refine x_eqlAS tb_ok (fun hc => ?_) (fun hc => ?_))
            | refine x_ret ?_
            | refine x_nor ?_
            | exact x_le)
        rfl
      · rw [decide_eq_false hE]
        repeat' (first
            | with_reducible first | refine awp_seq ?_ | refine awp_region ?_ | refine awp_draw mixed ?_ | refine then_n ?_ | refine awp_skip ?_ | refine awp_block ?_ | refine awp_exit ?_ | refine awp_ret ?_ | refine awp_label ?_ | refine then_exit ?_ | refine then_ret ?_ | refine blk_n ?_ | refine blk_ret ?_ | refine blk_exit ?_ | refine blk_other rfl ?_ | refine then_k ?_
            | refine awp_true rfl ?_
            | refine awp_false rfl ?_
            | refine awp_split rfl (fun hb => ?_) (fun hb => ?_)
            | (refine isR ?_; first | refine x_far [] tb_ok rfl ?_ | refine r_nil ?_ | refine r_nild (by kernel_rfl) ?_ | refine x_call (c1 _) ?_ | refine x_call (c1) ?_ | refine x_slStE tb_ok hW ?_ | refine x_slSfE tb_ok hR ?_ | refine x_subK ?_ | refine x_cv .i64 tb_ok ?_ | refine x_addE ?_ | refine x_add ?_ | refine x_subE ?_ | refine x_sub ?_ | refine x_mulE ?_ | refine x_mul ?_ | refine x_cat ?_ | refine x_lenF tb_ok ?_ | refine x_lenO tb_ok ?_ | refine x_lenN tb_ok ?_ | refine x_lenS ?_ | refine x_lssT ?_ | refine x_lssF ?_ | refine x_lss (fun hc => ?_) (fun hc => ?_) | refine x_gtrT ?_ | refine x_gtrF ?_ | refine x_gtr (fun hc => ?_) (fun hc => ?_) | refine x_eqlT ?_ | refine x_eqlF ?_ | refine x_eql (fun hc => ?_) (fun hc => ?_) | refine x_eqlB ?_ | refine x_eqlST ?_ | refine x_eqlSF ?_ | refine x_eqlS (fun hc => ?_) (fun hc => ?_) | refine x_eqlI ?_ | refine x_eqlN ?_ | refine x_ixS tb_ok ?_ | refine x_ixA tb_ok ?_ | refine x_slSf tb_ok ?_ | refine x_slSt tb_ok ?_ | refine x_slSm tb_ok ?_ | refine x_slFf tb_ok ?_ | refine x_slFt tb_ok ?_ | refine x_slFm tb_ok ?_ | refine x_bytes tb_ok ?_ | refine x_cv64 tb_ok ?_ | refine x_eqlA tb_ok ?_ | refine x_eqlAS tb_ok (fun hc => ?_) (fun hc => ?_))
            | refine x_ret ?_
            | refine x_nor ?_
            | exact x_le)
        rfl
set_option maxRecDepth 100000 in
set_option maxHeartbeats 4000000 in
theorem numberM_v {s w r : List UInt8} {z : Int} {D : List UInt8} (hw : w[0]? = some 45) (hD : w.drop (Int.toNat 1) = D) (hz : posB 59 s = z) (z0 : 0 ≤ z) (z1 : z < s.length) (hW : s.take z.toNat = w) (hR : s.drop (z + 1).toNat = r) (hs : s.length ≤ 20000) : ACalls Tryd.prog 53 [strT s] (numV true D w r) := by
  have c0 : ACalls Tryd.prog 66 [strT s, byteT 59] (.int .i64 z) := hz ▸ placeOf_v
  have lw : w.length ≤ s.length := by rw [← hW, List.length_take]; omega
  have h45 : ((45 : UInt8).toNat : Int) = 45 := rfl
  have hwl : 0 < w.length := (List.getElem?_eq_some_iff.1 hw).1
  have lD : D.length ≤ w.length := by rw [← hD, List.length_drop]; omega
  unfold numV
  cases hd : D.all digC with
  | false =>
    rw [if_neg (by decide)]
    refine fun1 tb_ok Tryd.func53 rfl Tryd.ntmps53 Tryd.results53 rfl fun N => ?_
    repeat' (first
        | with_reducible first | refine awp_seq ?_ | refine awp_region ?_ | refine awp_draw mixed ?_ | refine then_n ?_ | refine awp_skip ?_ | refine awp_block ?_ | refine awp_exit ?_ | refine awp_ret ?_ | refine awp_label ?_ | refine then_exit ?_ | refine then_ret ?_ | refine blk_n ?_ | refine blk_ret ?_ | refine blk_exit ?_ | refine blk_other rfl ?_ | refine then_k ?_
        | refine awp_true rfl ?_
        | refine awp_false rfl ?_
        | refine awp_split rfl (fun hb => ?_) (fun hb => ?_)
        | (refine isR ?_; first | refine x_far [] tb_ok rfl ?_ | refine r_nil ?_ | refine r_nild (by kernel_rfl) ?_ | refine x_call (c0 _) ?_ | refine x_call (c0) ?_ | refine x_slStE tb_ok hW ?_ | refine x_slSfE tb_ok hR ?_ | refine x_slSfE tb_ok hD ?_ | refine x_addE ?_ | refine x_add ?_ | refine x_subE ?_ | refine x_sub ?_ | refine x_mulE ?_ | refine x_mul ?_ | refine x_cat ?_ | refine x_lenF tb_ok ?_ | refine x_lenO tb_ok ?_ | refine x_lenN tb_ok ?_ | refine x_lenS ?_ | refine x_lssT ?_ | refine x_lssF ?_ | refine x_lss (fun hc => ?_) (fun hc => ?_) | refine x_gtrT ?_ | refine x_gtrF ?_ | refine x_gtr (fun hc => ?_) (fun hc => ?_) | refine x_eqlT ?_ | refine x_eqlF ?_ | refine x_eql (fun hc => ?_) (fun hc => ?_) | refine x_eqlB ?_ | refine x_eqlST ?_ | refine x_eqlSF ?_ | refine x_eqlS (fun hc => ?_) (fun hc => ?_) | refine x_eqlI ?_ | refine x_eqlN ?_ | refine x_ixS tb_ok ?_ | refine x_ixA tb_ok ?_ | refine x_slSf tb_ok ?_ | refine x_slSt tb_ok ?_ | refine x_slSm tb_ok ?_ | refine x_slFf tb_ok ?_ | refine x_slFt tb_ok ?_ | refine x_slFm tb_ok ?_ | refine x_bytes tb_ok ?_ | refine x_cv64 tb_ok ?_ | refine x_eqlA tb_ok ?_ | refine x_eqlAS tb_ok (fun hc => ?_) (fun hc => ?_))
        | refine x_ret ?_
        | refine x_nor ?_
        | exact x_le)
    refine awp_for (fun k => ⟨[(0, strT s), (5, .int .i64 z), (6, strT w), (7, strT D), (8, .int .u64 (foldW (D.take k))), (9, .int .i64 (k : Int))], [], 0, 70⟩) (fun k => k ≤ D.length ∧ ∀ j c, j < k → D[j]? = some c → digC c = true) D.length 0 (by exact x_le) ⟨Nat.zero_le _, fun j c h => absurd h (Nat.not_lt_zero _)⟩ ?_
    intro k ⟨hk, hp⟩
    by_cases hk2 : k < D.length
    · clear hd
      have e1 : D[k]? = some D[k] := by simp [hk2]
      have ft := fold_more hk2
      simp only [ft]
      have cd := isDigit_v (c := D[k])
      have hcl := D[k].toNat_lt
      have s4 := byte_wrap D[k]
      generalize D[k] = c at e1 s4 cd hcl ⊢
      generalize foldW (D.take k) = n
      obtain ⟨n4, s1⟩ : ∃ n4, IntKind.u64.wrap (n * 10) = n4 := ⟨_, rfl⟩
      obtain ⟨n3, s2⟩ : ∃ n3, IntKind.u64.wrap (n4 + (c.toNat : Int)) = n3 := ⟨_, rfl⟩
      obtain ⟨n2, s3⟩ : ∃ n2, IntKind.u64.wrap (n3 - 48) = n2 := ⟨_, rfl⟩
      have se : stepW n c = n2 := by unfold stepW; rw [s1, s2, s3]
      rw [se]
      clear ft
      cases hb : digC c with
      | false =>
        rw [hb] at cd
        repeat' (first
            | with_reducible first | refine awp_seq ?_ | refine awp_region ?_ | refine awp_draw mixed ?_ | refine then_n ?_ | refine awp_skip ?_ | refine awp_block ?_ | refine awp_exit ?_ | refine awp_ret ?_ | refine awp_label ?_ | refine then_exit ?_ | refine then_ret ?_ | refine blk_n ?_ | refine blk_ret ?_ | refine blk_exit ?_ | refine blk_other rfl ?_ | refine then_k ?_
            | refine awp_true rfl ?_
            | refine awp_false rfl ?_
            | refine awp_split rfl (fun hb => ?_) (fun hb => ?_)
            | (refine isR ?_; first | refine x_far [] tb_ok rfl ?_ | refine r_nil ?_ | refine r_nild (by kernel_rfl) ?_ | refine x_callv (cd _) ?_ | refine x_callv (cd) ?_ | refine x_call (cd _) ?_ | refine x_call (cd) ?_ | refine x_mulK ?_ | refine x_addK ?_ | refine x_subK ?_ | refine x_cv .u64 tb_ok ?_ | refine x_addE ?_ | refine x_add ?_ | refine x_subE ?_ | refine x_sub ?_ | refine x_mulE ?_ | refine x_mul ?_ | refine x_cat ?_ | refine x_lenF tb_ok ?_ | refine x_lenO tb_ok ?_ | refine x_lenN tb_ok ?_ | refine x_lenS ?_ | refine x_lssT ?_ | refine x_lssF ?_ | refine x_lss (fun hc => ?_) (fun hc => ?_) | refine x_gtrT ?_ | refine x_gtrF ?_ | refine x_gtr (fun hc => ?_) (fun hc => ?_) | refine x_eqlT ?_ | refine x_eqlF ?_ | refine x_eql (fun hc => ?_) (fun hc => ?_) | refine x_eqlB ?_ | refine x_eqlST ?_ | refine x_eqlSF ?_ | refine x_eqlS (fun hc => ?_) (fun hc => ?_) | refine x_eqlI ?_ | refine x_eqlN ?_ | refine x_ixS tb_ok ?_ | refine x_ixA tb_ok ?_ | refine x_slSf tb_ok ?_ | refine x_slSt tb_ok ?_ | refine x_slSm tb_ok ?_ | refine x_slFf tb_ok ?_ | refine x_slFt tb_ok ?_ | refine x_slFm tb_ok ?_ | refine x_bytes tb_ok ?_ | refine x_cv64 tb_ok ?_ | refine x_eqlA tb_ok ?_ | refine x_eqlAS tb_ok (fun hc => ?_) (fun hc => ?_))
            | refine x_ret ?_
            | refine x_nor ?_
            | exact x_le)
        rfl
      | true =>
        rw [hb] at cd
        repeat' (first
            | with_reducible first | refine awp_seq ?_ | refine awp_region ?_ | refine awp_draw mixed ?_ | refine then_n ?_ | refine awp_skip ?_ | refine awp_block ?_ | refine awp_exit ?_ | refine awp_ret ?_ | refine awp_label ?_ | refine then_exit ?_ | refine then_ret ?_ | refine blk_n ?_ | refine blk_ret ?_ | refine blk_exit ?_ | refine blk_other rfl ?_ | refine then_k ?_
            | refine awp_true rfl ?_
            | refine awp_false rfl ?_
            | refine awp_split rfl (fun hb => ?_) (fun hb => ?_)
            | (refine isR ?_; first | refine x_far [] tb_ok rfl ?_ | refine r_nil ?_ | refine r_nild (by kernel_rfl) ?_ | refine x_callv (cd _) ?_ | refine x_callv (cd) ?_ | refine x_call (cd _) ?_ | refine x_call (cd) ?_ | refine x_mulK ?_ | refine x_addK ?_ | refine x_subK ?_ | refine x_cv .u64 tb_ok ?_ | refine x_addE ?_ | refine x_add ?_ | refine x_subE ?_ | refine x_sub ?_ | refine x_mulE ?_ | refine x_mul ?_ | refine x_cat ?_ | refine x_lenF tb_ok ?_ | refine x_lenO tb_ok ?_ | refine x_lenN tb_ok ?_ | refine x_lenS ?_ | refine x_lssT ?_ | refine x_lssF ?_ | refine x_lss (fun hc => ?_) (fun hc => ?_) | refine x_gtrT ?_ | refine x_gtrF ?_ | refine x_gtr (fun hc => ?_) (fun hc => ?_) | refine x_eqlT ?_ | refine x_eqlF ?_ | refine x_eql (fun hc => ?_) (fun hc => ?_) | refine x_eqlB ?_ | refine x_eqlST ?_ | refine x_eqlSF ?_ | refine x_eqlS (fun hc => ?_) (fun hc => ?_) | refine x_eqlI ?_ | refine x_eqlN ?_ | refine x_ixS tb_ok ?_ | refine x_ixA tb_ok ?_ | refine x_slSf tb_ok ?_ | refine x_slSt tb_ok ?_ | refine x_slSm tb_ok ?_ | refine x_slFf tb_ok ?_ | refine x_slFt tb_ok ?_ | refine x_slFm tb_ok ?_ | refine x_bytes tb_ok ?_ | refine x_cv64 tb_ok ?_ | refine x_eqlA tb_ok ?_ | refine x_eqlAS tb_ok (fun hc => ?_) (fun hc => ?_))
            | refine x_ret ?_
            | refine x_nor ?_
            | exact x_le)
        refine ⟨⟨by omega, fun j y hj hy => ?_⟩, by omega, (by exact x_le)⟩
        rcases Nat.lt_succ_iff_lt_or_eq.1 hj with h | rfl
        · exact hp j y h hy
        · rw [e1] at hy; cases hy; exact hb
    · exfalso
      have : D.all digC = true := List.all_eq_true.2 fun x hx => by
        obtain ⟨i, hi⟩ := List.mem_iff_getElem?.1 hx
        exact hp i x (by have := (List.getElem?_eq_some_iff.1 hi).1; omega) hi
      rw [hd] at this; cases this
  | true =>
    rw [if_pos rfl]
    have ha := List.all_eq_true.1 hd
    refine fun1 tb_ok Tryd.func53 rfl Tryd.ntmps53 Tryd.results53 rfl fun N => ?_
    repeat' (first
        | with_reducible first | refine awp_seq ?_ | refine awp_region ?_ | refine awp_draw mixed ?_ | refine then_n ?_ | refine awp_skip ?_ | refine awp_block ?_ | refine awp_exit ?_ | refine awp_ret ?_ | refine awp_label ?_ | refine then_exit ?_ | refine then_ret ?_ | refine blk_n ?_ | refine blk_ret ?_ | refine blk_exit ?_ | refine blk_other rfl ?_ | refine then_k ?_
        | refine awp_true rfl ?_
        | refine awp_false rfl ?_
        | refine awp_split rfl (fun hb => ?_) (fun hb => ?_)
        | (refine isR ?_; first | refine x_far [] tb_ok rfl ?_ | refine r_nil ?_ | refine r_nild (by kernel_rfl) ?_ | refine x_call (c0 _) ?_ | refine x_call (c0) ?_ | refine x_slStE tb_ok hW ?_ | refine x_slSfE tb_ok hR ?_ | refine x_slSfE tb_ok hD ?_ | refine x_addE ?_ | refine x_add ?_ | refine x_subE ?_ | refine x_sub ?_ | refine x_mulE ?_ | refine x_mul ?_ | refine x_cat ?_ | refine x_lenF tb_ok ?_ | refine x_lenO tb_ok ?_ | refine x_lenN tb_ok ?_ | refine x_lenS ?_ | refine x_lssT ?_ | refine x_lssF ?_ | refine x_lss (fun hc => ?_) (fun hc => ?_) | refine x_gtrT ?_ | refine x_gtrF ?_ | refine x_gtr (fun hc => ?_) (fun hc => ?_) | refine x_eqlT ?_ | refine x_eqlF ?_ | refine x_eql (fun hc => ?_) (fun hc => ?_) | refine x_eqlB ?_ | refine x_eqlST ?_ | refine x_eqlSF ?_ | refine x_eqlS (fun hc => ?_) (fun hc => ?_) | refine x_eqlI ?_ | refine x_eqlN ?_ | refine x_ixS tb_ok ?_ | refine x_ixA tb_ok ?_ | refine x_slSf tb_ok ?_ | refine x_slSt tb_ok ?_ | refine x_slSm tb_ok ?_ | refine x_slFf tb_ok ?_ | refine x_slFt tb_ok ?_ | refine x_slFm tb_ok ?_ | refine x_bytes tb_ok ?_ | refine x_cv64 tb_ok ?_ | refine x_eqlA tb_ok ?_ | refine x_eqlAS tb_ok (fun hc => ?_) (fun hc => ?_))
        | refine x_ret ?_
        | refine x_nor ?_
        | exact x_le)
    refine awp_for (fun k => ⟨[(0, strT s), (5, .int .i64 z), (6, strT w), (7, strT D), (8, .int .u64 (foldW (D.take k))), (9, .int .i64 (k : Int))], [], 0, 70⟩) (fun k => k ≤ D.length) D.length 0 (by exact x_le) (Nat.zero_le _) ?_
    intro k hk
    by_cases hk2 : k < D.length
    · have hb := ha D[k] (List.getElem_mem hk2)
      clear hd ha
      have e1 : D[k]? = some D[k] := by simp [hk2]
      have ft := fold_more hk2
      simp only [ft]
      have cd := isDigit_v (c := D[k])
      have hcl := D[k].toNat_lt
      have s4 := byte_wrap D[k]
      rw [hb] at cd
      generalize D[k] = c at e1 s4 cd hcl ⊢
      generalize foldW (D.take k) = n
      obtain ⟨n4, s1⟩ : ∃ n4, IntKind.u64.wrap (n * 10) = n4 := ⟨_, rfl⟩
      obtain ⟨n3, s2⟩ : ∃ n3, IntKind.u64.wrap (n4 + (c.toNat : Int)) = n3 := ⟨_, rfl⟩
      obtain ⟨n2, s3⟩ : ∃ n2, IntKind.u64.wrap (n3 - 48) = n2 := ⟨_, rfl⟩
      have se : stepW n c = n2 := by unfold stepW; rw [s1, s2, s3]
      rw [se]
      clear ft
      repeat' (first
          | with_reducible first | refine awp_seq ?_ | refine awp_region ?_ | refine awp_draw mixed ?_ | refine then_n ?_ | refine awp_skip ?_ | refine awp_block ?_ | refine awp_exit ?_ | refine awp_ret ?_ | refine awp_label ?_ | refine then_exit ?_ | refine then_ret ?_ | refine blk_n ?_ | refine blk_ret ?_ | refine blk_exit ?_ | refine blk_other rfl ?_ | refine then_k ?_
          | refine awp_true rfl ?_
          | refine awp_false rfl ?_
          | refine awp_split rfl (fun hb => ?_) (fun hb => ?_)
          | (refine isR ?_; first | refine x_far [] tb_ok rfl ?_ | refine r_nil ?_ | refine r_nild (by kernel_rfl) ?_ | refine x_callv (cd _) ?_ | refine x_callv (cd) ?_ | refine x_call (cd _) ?_ | refine x_call (cd) ?_ | refine x_mulK ?_ | refine x_addK ?_ | refine x_subK ?_ | refine x_cv .u64 tb_ok ?_ | refine x_addE ?_ | refine x_add ?_ | refine x_subE ?_ | refine x_sub ?_ | refine x_mulE ?_ | refine x_mul ?_ | refine x_cat ?_ | refine x_lenF tb_ok ?_ | refine x_lenO tb_ok ?_ | refine x_lenN tb_ok ?_ | refine x_lenS ?_ | refine x_lssT ?_ | refine x_lssF ?_ | refine x_lss (fun hc => ?_) (fun hc => ?_) | refine x_gtrT ?_ | refine x_gtrF ?_ | refine x_gtr (fun hc => ?_) (fun hc => ?_) | refine x_eqlT ?_ | refine x_eqlF ?_ | refine x_eql (fun hc => ?_) (fun hc => ?_) | refine x_eqlB ?_ | refine x_eqlST ?_ | refine x_eqlSF ?_ | refine x_eqlS (fun hc => ?_) (fun hc => ?_) | refine x_eqlI ?_ | refine x_eqlN ?_ | refine x_ixS tb_ok ?_ | refine x_ixA tb_ok ?_ | refine x_slSf tb_ok ?_ | refine x_slSt tb_ok ?_ | refine x_slSm tb_ok ?_ | refine x_slFf tb_ok ?_ | refine x_slFt tb_ok ?_ | refine x_slFm tb_ok ?_ | refine x_bytes tb_ok ?_ | refine x_cv64 tb_ok ?_ | refine x_eqlA tb_ok ?_ | refine x_eqlAS tb_ok (fun hc => ?_) (fun hc => ?_))
          | refine x_ret ?_
          | refine x_nor ?_
          | exact x_le)
      refine ⟨by omega, by omega, ?_⟩
      exact (by exact x_le)
    · have ht : D.take k = D := List.take_of_length_le (by omega)
      simp only [ht]
      generalize foldW D = n at *
      have hx := x_in true n
      have w1 : IntKind.i64.wrap (negF true n) = xF true n := rfl
      have w0 : IntKind.u64.wrap (0 - n) = negF true n := rfl
      have w2 : IntKind.i64.wrap n = IntKind.i64.wrap n := rfl
      have c1 := decimal_v hx
      generalize xF true n = x at *
      generalize negF true n = n5 at *
      clear hd ha ht
      by_cases hE : Lib.itoa x = w
      · rw [decide_eq_true hE]
        repeat' (first
            | with_reducible first | refine awp_seq ?_ | refine awp_region ?_ | refine awp_draw mixed ?_ | refine then_n ?_ | refine awp_skip ?_ | refine awp_block ?_ | refine awp_exit ?_ | refine awp_ret ?_ | refine awp_label ?_ | refine then_exit ?_ | refine then_ret ?_ | refine blk_n ?_ | refine blk_ret ?_ | refine blk_exit ?_ | refine blk_other rfl ?_ | refine then_k ?_
            | refine awp_true rfl ?_
            | refine awp_false rfl ?_
            | refine awp_split rfl (fun hb => ?_) (fun hb => ?_)
            | (refine isR ?_; first | refine x_far [] tb_ok rfl ?_ | refine r_nil ?_ | refine r_nild (by kernel_rfl) ?_ | refine x_call (c1 _) ?_ | refine x_call (c1) ?_ | refine x_slStE tb_ok hW ?_ | refine x_slSfE tb_ok hR ?_ | refine x_slSfE tb_ok hD ?_ | refine x_subK ?_ | refine x_cv .i64 tb_ok ?_ | refine x_addE ?_ | refine x_add ?_ | refine x_subE ?_ | refine x_sub ?_ | refine x_mulE ?_ | refine x_mul ?_ | refine x_cat ?_ | refine x_lenF tb_ok ?_ | refine x_lenO tb_ok ?_ | refine x_lenN tb_ok ?_ | refine x_lenS ?_ | refine x_lssT ?_ | refine x_lssF ?_ | refine x_lss (fun hc => ?_) (fun hc => ?_) | refine x_gtrT ?_ | refine x_gtrF ?_ | refine x_gtr (fun hc => ?_) (fun hc => ?_) | refine x_eqlT ?_ | refine x_eqlF ?_ | refine x_eql (fun hc => ?_) (fun hc => ?_) | refine x_eqlB ?_ | refine x_eqlST ?_ | refine x_eqlSF ?_ | refine x_eqlS (fun hc => ?_) (fun hc => ?_) | refine x_eqlI ?_ | refine x_eqlN ?_ | refine x_ixS tb_ok ?_ | refine x_ixA tb_ok ?_ | refine x_slSf tb_ok ?_ | refine x_slSt tb_ok ?_ | refine x_slSm tb_ok ?_ | refine x_slFf tb_ok ?_ | refine x_slFt tb_ok ?_ | refine x_slFm tb_ok ?_ | refine x_bytes tb_ok ?_ | refine x_cv64 tb_ok ?_ | refine x_eqlA tb_ok ?_ | refine x_eqlAS tb_ok (fun hc => ?_) (fun hc => ?_))
            | refine x_ret ?_
            | refine x_nor ?_
            | exact x_le)
        rfl
      · rw [decide_eq_false hE]
        repeat' (first
            | with_reducible first | refine awp_seq ?_ | refine awp_region ?_ | refine awp_draw mixed ?_ | refine then_n ?_ | refine awp_skip ?_ | refine awp_block ?_ | refine awp_exit ?_ | refine awp_ret ?_ | refine awp_label ?_ | refine then_exit ?_ | refine then_ret ?_ | refine blk_n ?_ | refine blk_ret ?_ | refine blk_exit ?_ | refine blk_other rfl ?_ | refine then_k ?_
            | refine awp_true rfl ?_
            | refine awp_false rfl ?_
            | refine awp_split rfl (fun hb => ?_) (fun hb => ?_)
            | (refine isR ?_; first | refine x_far [] tb_ok rfl ?_ | refine r_nil ?_ | refine r_nild (by kernel_rfl) ?_ | refine x_call (c1 _) ?_ | refine x_call (c1) ?_ | refine x_slStE tb_ok hW ?_ | refine x_slSfE tb_ok hR ?_ | refine x_slSfE tb_ok hD ?_ | refine x_subK ?_ | refine x_cv .i64 tb_ok ?_ | refine x_addE ?_ | refine x_add ?_ | refine x_subE ?_ | refine x_sub ?_ | refine x_mulE ?_ | refine x_mul ?_ | refine x_cat ?_ | refine x_lenF tb_ok ?_ | refine x_lenO tb_ok ?_ | refine x_lenN tb_ok ?_ | refine x_lenS ?_ | refine x_lssT ?_ | refine x_lssF ?_ | refine x_lss (fun hc => ?_) (fun hc => ?_) | refine x_gtrT ?_ | refine x_gtrF ?_ | refine x_gtr (fun hc => ?_) (fun hc => ?_) | refine x_eqlT ?_ | refine x_eqlF ?_ | refine x_eql (fun hc => ?_) (fun hc => ?_) | refine x_eqlB ?_ | refine x_eqlST ?_ | refine x_eqlSF ?_ | refine x_eqlS (fun hc => ?_) (fun hc => ?_) | refine x_eqlI ?_ | refine x_eqlN ?_ | refine x_ixS tb_ok ?_ | refine x_ixA tb_ok ?_ | refine x_slSf tb_ok ?_ | refine x_slSt tb_ok ?_ | refine x_slSm tb_ok ?_ | refine x_slFf tb_ok ?_ | refine x_slFt tb_ok ?_ | refine x_slFm tb_ok ?_ | refine x_bytes tb_ok ?_ | refine x_cv64 tb_ok ?_ | refine x_eqlA tb_ok ?_ | refine x_eqlAS tb_ok (fun hc => ?_) (fun hc => ?_))
            | refine x_ret ?_
            | refine x_nor ?_
            | exact x_le)
        rfl
end Go.Proofs.YtdimidhacccdjaaDoor.DiskH
