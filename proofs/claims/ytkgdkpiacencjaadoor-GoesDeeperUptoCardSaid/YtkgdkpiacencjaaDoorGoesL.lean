/- The laws of what goes along: the walks. -/
import Derived.Test.YtkgdkpiacencjaaDoorGoesW
namespace Go.Proofs.YtkgdkpiacencjaaDoor.GoesL
open Go.RowKit Mem Abs TreeW HostP HostO HostA HostB HostC HostD HostE HostF HostG WordP WordS Globs PathT GoesW

def identC : Cookie := ⟨([105, 100] : List UInt8), ([55] : List UInt8), ([115, 104, 111, 112, 46, 99, 111, 109] : List UInt8), ([47, 99, 97, 114, 116] : List UInt8), false, true, false, true, 0, 1060, 1000, 1000, 0⟩
def shopC : From := ⟨([119, 119, 119, 46, 115, 104, 111, 112, 46, 99, 111, 109] : List UInt8), ([47, 99, 97, 114, 116, 47, 97, 100, 100] : List UInt8), true, false, false⟩
def slowC : From := ⟨([119, 119, 119, 46, 115, 104, 111, 112, 46, 99, 111, 109] : List UInt8), ([47, 99, 97, 114, 116, 47, 97, 100, 100] : List UInt8), false, false, false⟩
def farC : From := ⟨([119, 119, 119, 46, 115, 104, 111, 112, 46, 99, 111, 109] : List UInt8), ([47, 99, 97, 114, 116, 47, 97, 100, 100] : List UInt8), true, false, true⟩
theorem b1 : goesF identC shopC 1059 = true := by decide +kernel
theorem b2 : goesF identC shopC 1060 = false := by decide +kernel
theorem b3 : goesF identC slowC 1000 = false := by decide +kernel
theorem b4 : goesF identC farC 1000 = false := by decide +kernel
set_option maxRecDepth 100000 in
set_option maxHeartbeats 4000000 in
theorem ident_v : ACalls Tryd.prog 39 [] identC.v := by
  refine fun0 tb_ok Tryd.func39 rfl Tryd.ntmps39 Tryd.results39 fun N => ?_
  repeat' (first
      | with_reducible first | refine awp_seq ?_ | refine awp_region ?_ | refine awp_draw mixed ?_ | refine then_n ?_ | refine awp_skip ?_ | refine awp_block ?_ | refine awp_exit ?_ | refine awp_ret ?_ | refine awp_label ?_ | refine then_exit ?_ | refine then_ret ?_ | refine blk_n ?_ | refine blk_ret ?_ | refine blk_exit ?_ | refine blk_other rfl ?_ | refine then_k ?_
      | refine awp_true rfl ?_
      | refine awp_false rfl ?_
      | refine awp_split rfl (fun hb => ?_) (fun hb => ?_)
      | (refine isR ?_; first | refine x_far [] tb_ok rfl ?_ | refine r_nil ?_ | refine r_nild (by kernel_rfl) ?_)
      | refine x_ret ?_
      | refine x_nor ?_
      | exact x_le)
  rfl
set_option maxRecDepth 100000 in
set_option maxHeartbeats 4000000 in
theorem shop_v : ACalls Tryd.prog 38 [] shopC.v := by
  refine fun0 tb_ok Tryd.func38 rfl Tryd.ntmps38 Tryd.results38 fun N => ?_
  repeat' (first
      | with_reducible first | refine awp_seq ?_ | refine awp_region ?_ | refine awp_draw mixed ?_ | refine then_n ?_ | refine awp_skip ?_ | refine awp_block ?_ | refine awp_exit ?_ | refine awp_ret ?_ | refine awp_label ?_ | refine then_exit ?_ | refine then_ret ?_ | refine blk_n ?_ | refine blk_ret ?_ | refine blk_exit ?_ | refine blk_other rfl ?_ | refine then_k ?_
      | refine awp_true rfl ?_
      | refine awp_false rfl ?_
      | refine awp_split rfl (fun hb => ?_) (fun hb => ?_)
      | (refine isR ?_; first | refine x_far [] tb_ok rfl ?_ | refine r_nil ?_ | refine r_nild (by kernel_rfl) ?_)
      | refine x_ret ?_
      | refine x_nor ?_
      | exact x_le)
  rfl
set_option maxRecDepth 100000 in
set_option maxHeartbeats 4000000 in
theorem begun_v : ACallsG Tryd.prog gStr 13 [] (.bool true) := by
  have c1 := goes_v (c := identC) (f := shopC) (now := 1059) (by decide) (by decide)
  have c2 := goes_v (c := identC) (f := shopC) (now := 1060) (by decide) (by decide)
  have c3 := goes_v (c := identC) (f := slowC) (now := 1000) (by decide) (by decide)
  have c4 := goes_v (c := identC) (f := farC) (now := 1000) (by decide) (by decide)
  have c5 := live_v (c := identC) (now := 0)
  rw [b1] at c1; rw [b2] at c2; rw [b3] at c3; rw [b4] at c4
  rw [show decide ((0 : Int) < identC.expiry) = true from rfl] at c5
  refine funG0 tb_ok Tryd.func13 rfl Tryd.ntmps13 Tryd.results13 fun N => ?_
  repeat' (first
      | with_reducible first | refine awp_seq ?_ | refine awp_region ?_ | refine awp_draw mixed ?_ | refine then_n ?_ | refine awp_skip ?_ | refine awp_block ?_ | refine awp_exit ?_ | refine awp_ret ?_ | refine awp_label ?_ | refine then_exit ?_ | refine then_ret ?_ | refine blk_n ?_ | refine blk_ret ?_ | refine blk_exit ?_ | refine blk_other rfl ?_ | refine then_k ?_
      | refine awp_true rfl ?_
      | refine awp_false rfl ?_
      | refine awp_split rfl (fun hb => ?_) (fun hb => ?_)
      | (refine isR ?_; first | refine x_far [] tb_ok rfl ?_ | refine r_nil ?_ | refine r_nild (by kernel_rfl) ?_ | refine x_call (shop_v _) ?_ | refine x_call (shop_v) ?_ | refine x_call (ident_v _) ?_ | refine x_call (ident_v) ?_ | refine x_call (c1 _) ?_ | refine x_call (c1) ?_ | refine x_call (c2 _) ?_ | refine x_call (c2) ?_ | refine x_call (c3 _) ?_ | refine x_call (c3) ?_ | refine x_call (c4 _) ?_ | refine x_call (c4) ?_ | refine x_call (c5 _) ?_ | refine x_call (c5) ?_)
      | refine x_ret ?_
      | refine x_nor ?_
      | exact x_le)
  rfl
set_option maxRecDepth 100000 in
set_option maxHeartbeats 4000000 in
theorem tells_law {c : Cookie} {f : From} {now : Int} (hd : c.domain.length ≤ 4398046511104) (hf : f.host.length ≤ 4398046511104) : ACallsG Tryd.prog gStr 3 [c.v, f.v, .int .i64 now] (.bool true) := by
  have c1 := live_v (c := c) (now := now)
  have c2 := isLive_v (c := c) (now := now)
  have c3 := goes_v (c := c) (f := f) (now := now) hd hf
  have c4 := goesOf_v (c := c) (f := f) (now := now) hd hf
  generalize decide (now < c.expiry) = x at *
  generalize goesF c f now = y at *
  refine funG3 tb_ok Tryd.func3 rfl Tryd.ntmps3 Tryd.results3 rfl fun N => ?_
  repeat' (first
      | with_reducible first | refine awp_seq ?_ | refine awp_region ?_ | refine awp_draw mixed ?_ | refine then_n ?_ | refine awp_skip ?_ | refine awp_block ?_ | refine awp_exit ?_ | refine awp_ret ?_ | refine awp_label ?_ | refine then_exit ?_ | refine then_ret ?_ | refine blk_n ?_ | refine blk_ret ?_ | refine blk_exit ?_ | refine blk_other rfl ?_ | refine then_k ?_
      | refine awp_true rfl ?_
      | refine awp_false rfl ?_
      | refine awp_split rfl (fun hb => ?_) (fun hb => ?_)
      | (refine isR ?_; first | refine x_far [] tb_ok rfl ?_ | refine r_nil ?_ | refine r_nild (by kernel_rfl) ?_ | refine x_call (begun_v _) ?_ | refine x_call (begun_v) ?_ | refine x_call (c1 _) ?_ | refine x_call (c1) ?_ | refine x_call (c2 _) ?_ | refine x_call (c2) ?_ | refine x_call (c3 _) ?_ | refine x_call (c3) ?_ | refine x_call (c4 _) ?_ | refine x_call (c4) ?_ | refine x_eqlT ?_ | refine x_eqlF ?_ | refine x_eql (fun hc => ?_) (fun hc => ?_) | refine x_eqlB ?_ | refine x_eqlST ?_ | refine x_eqlSF ?_ | refine x_eqlS (fun hc => ?_) (fun hc => ?_) | refine x_eqlI ?_ | refine x_eqlN ?_ | refine x_eqlA tb_ok ?_ | refine x_eqlAS tb_ok (fun hc => ?_) (fun hc => ?_))
      | refine x_ret ?_
      | refine x_nor ?_
      | exact x_le)
  rfl
theorem goes_less {c : Cookie} {f g : From} {now later : Int} (h1 : now ≤ later) (h2 : g.host = f.host) (h3 : g.path = f.path) (h4 : f.script = true → g.script = true) (h5 : f.abroad = true → g.abroad = true) (h6 : g.secure = true → f.secure = true) (h : goesF c g later = true) : goesF c f now = true := by
  obtain ⟨f1, f2, f3, f4, f5⟩ := f
  obtain ⟨g1, g2, g3, g4, g5⟩ := g
  obtain ⟨d1, d2, d3, d4, d5, d6, d7, d8, d9, d10, d11, d12, d13⟩ := c
  dsimp only at h2 h3 h4 h5 h6
  subst h2 h3
  unfold goesF atF mayF at *
  dsimp only at *
  simp only [Bool.and_eq_true, decide_eq_true_eq] at h ⊢
  refine ⟨by omega, h.2.1, h.2.2.1, ?_⟩
  have h := h.2.2.2
  revert h h4 h5 h6
  generalize decide (d9 = 1) = s
  cases d6 <;> cases d7 <;> cases s <;> cases f3 <;> cases f4 <;> cases f5 <;> cases g3 <;> cases g4 <;> cases g5 <;> simp
theorem goes_deeper {c : Cookie} {f g : From} {now : Int} (h1 : g.secure = f.secure) (h2 : g.script = f.script) (h3 : g.abroad = f.abroad) (h4 : pathF g.path f.path = true ∨ g.path = f.path) (h5 : g.host = f.host ∨ c.hostOnly = false ∧ matchF g.host f.host = true) (h : goesF c f now = true) : goesF c g now = true := by
  obtain ⟨f1, f2, f3, f4, f5⟩ := f
  obtain ⟨g1, g2, g3, g4, g5⟩ := g
  obtain ⟨d1, d2, d3, d4, d5, d6, d7, d8, d9, d10, d11, d12, d13⟩ := c
  dsimp only at *
  subst h1 h2 h3
  unfold goesF mayF at *
  dsimp only at *
  simp only [Bool.and_eq_true] at h ⊢
  refine ⟨h.1, ?_, ?_, h.2.2.2⟩
  · have h0 := h.2.1
    unfold atF at h0 ⊢
    dsimp only at *
    rcases h5 with rfl | ⟨e, hm⟩
    · exact h0
    · subst e
      exact match_trans _ _ _ hm h0
  · rcases h4 with h4 | rfl
    · exact path_trans h4 h.2.2.1
    · exact h.2.2.1
set_option maxRecDepth 100000 in
set_option maxHeartbeats 4000000 in
theorem less_law {c : Cookie} {f g : From} {now later : Int} (hd : c.domain.length ≤ 4398046511104) (hf : f.host.length ≤ 4398046511104) (hg : g.host.length ≤ 4398046511104) : ACallsG Tryd.prog gStr 4 [c.v, f.v, g.v, .int .i64 now, .int .i64 later] (.bool true) := by
  have c1 := goes_v (c := c) (f := g) (now := later) hd hg
  have c2 := goes_v (c := c) (f := f) (now := now) hd hf
  have key := goes_less (c := c) (f := f) (g := g) (now := now) (later := later)
  generalize goesF c g later = x at *
  generalize goesF c f now = y at *
  obtain ⟨f1, f2, f3, f4, f5⟩ := f
  obtain ⟨g1, g2, g3, g4, g5⟩ := g
  dsimp only at key
  by_cases h0 : later < now
  · skip
    refine funG5 tb_ok Tryd.func4 rfl Tryd.ntmps4 Tryd.results4 rfl fun N => ?_
    repeat' (first
        | with_reducible first | refine awp_seq ?_ | refine awp_region ?_ | refine awp_draw mixed ?_ | refine then_n ?_ | refine awp_skip ?_ | refine awp_block ?_ | refine awp_exit ?_ | refine awp_ret ?_ | refine awp_label ?_ | refine then_exit ?_ | refine then_ret ?_ | refine blk_n ?_ | refine blk_ret ?_ | refine blk_exit ?_ | refine blk_other rfl ?_ | refine then_k ?_
        | refine awp_true rfl ?_
        | refine awp_false rfl ?_
        | refine awp_split rfl (fun hb => ?_) (fun hb => ?_)
        | (refine isR ?_; first | refine x_far [] tb_ok rfl ?_ | refine r_nil ?_ | refine r_nild (by kernel_rfl) ?_ | refine x_call (begun_v _) ?_ | refine x_call (begun_v) ?_ | refine x_lssT ?_ | refine x_lssF ?_ | refine x_lss (fun hc => ?_) (fun hc => ?_) | refine x_neqT ?_ | refine x_neqF ?_ | refine x_neq (fun hc => ?_) (fun hc => ?_) | refine x_neqB ?_ | refine x_neqST ?_ | refine x_neqSF ?_ | refine x_neqS (fun hc => ?_) (fun hc => ?_) | refine x_neqI ?_ | refine x_neqN ?_ | refine x_neqA tb_ok ?_ | refine x_neqAS tb_ok (fun hc => ?_) (fun hc => ?_))
        | refine x_ret ?_
        | refine x_nor ?_
        | exact x_le)
    rfl
  · by_cases h1 : g1 = f1
    · by_cases h2 : g2 = f2
      · have key := key (by omega) h1 h2
        subst h1 h2
        cases f4
        · skip
          cases f5
          · skip
            cases g3
            · skip
              refine funG5 tb_ok Tryd.func4 rfl Tryd.ntmps4 Tryd.results4 rfl fun N => ?_
              repeat' (first
                  | with_reducible first | refine awp_seq ?_ | refine awp_region ?_ | refine awp_draw mixed ?_ | refine then_n ?_ | refine awp_skip ?_ | refine awp_block ?_ | refine awp_exit ?_ | refine awp_ret ?_ | refine awp_label ?_ | refine then_exit ?_ | refine then_ret ?_ | refine blk_n ?_ | refine blk_ret ?_ | refine blk_exit ?_ | refine blk_other rfl ?_ | refine then_k ?_
                  | refine awp_true rfl ?_
                  | refine awp_false rfl ?_
                  | refine awp_split rfl (fun hb => ?_) (fun hb => ?_)
                  | (refine isR ?_; first | refine x_far [] tb_ok rfl ?_ | refine r_nil ?_ | refine r_nild (by kernel_rfl) ?_ | refine x_call (begun_v _) ?_ | refine x_call (begun_v) ?_ | refine x_callS (c1 _) (fun hb => ?_) (fun hb => ?_) | refine x_callS (c1) (fun hb => ?_) (fun hb => ?_) | refine x_callS (c2 _) (fun hb => ?_) (fun hb => ?_) | refine x_callS (c2) (fun hb => ?_) (fun hb => ?_) | refine x_lssT ?_ | refine x_lssF ?_ | refine x_lss (fun hc => ?_) (fun hc => ?_) | refine x_neqT ?_ | refine x_neqF ?_ | refine x_neq (fun hc => ?_) (fun hc => ?_) | refine x_neqB ?_ | refine x_neqST ?_ | refine x_neqSF ?_ | refine x_neqS (fun hc => ?_) (fun hc => ?_) | refine x_neqI ?_ | refine x_neqN ?_ | refine x_neqA tb_ok ?_ | refine x_neqAS tb_ok (fun hc => ?_) (fun hc => ?_))
                  | refine x_ret ?_
                  | refine x_nor ?_
                  | exact x_le)
              all_goals first | rfl | (show V.bool _ = V.bool _; simp_all)
            · skip
              cases f3
              · skip
                refine funG5 tb_ok Tryd.func4 rfl Tryd.ntmps4 Tryd.results4 rfl fun N => ?_
                repeat' (first
                    | with_reducible first | refine awp_seq ?_ | refine awp_region ?_ | refine awp_draw mixed ?_ | refine then_n ?_ | refine awp_skip ?_ | refine awp_block ?_ | refine awp_exit ?_ | refine awp_ret ?_ | refine awp_label ?_ | refine then_exit ?_ | refine then_ret ?_ | refine blk_n ?_ | refine blk_ret ?_ | refine blk_exit ?_ | refine blk_other rfl ?_ | refine then_k ?_
                    | refine awp_true rfl ?_
                    | refine awp_false rfl ?_
                    | refine awp_split rfl (fun hb => ?_) (fun hb => ?_)
                    | (refine isR ?_; first | refine x_far [] tb_ok rfl ?_ | refine r_nil ?_ | refine r_nild (by kernel_rfl) ?_ | refine x_call (begun_v _) ?_ | refine x_call (begun_v) ?_ | refine x_lssT ?_ | refine x_lssF ?_ | refine x_lss (fun hc => ?_) (fun hc => ?_) | refine x_neqT ?_ | refine x_neqF ?_ | refine x_neq (fun hc => ?_) (fun hc => ?_) | refine x_neqB ?_ | refine x_neqST ?_ | refine x_neqSF ?_ | refine x_neqS (fun hc => ?_) (fun hc => ?_) | refine x_neqI ?_ | refine x_neqN ?_ | refine x_neqA tb_ok ?_ | refine x_neqAS tb_ok (fun hc => ?_) (fun hc => ?_))
                    | refine x_ret ?_
                    | refine x_nor ?_
                    | exact x_le)
                rfl
              · skip
                refine funG5 tb_ok Tryd.func4 rfl Tryd.ntmps4 Tryd.results4 rfl fun N => ?_
                repeat' (first
                    | with_reducible first | refine awp_seq ?_ | refine awp_region ?_ | refine awp_draw mixed ?_ | refine then_n ?_ | refine awp_skip ?_ | refine awp_block ?_ | refine awp_exit ?_ | refine awp_ret ?_ | refine awp_label ?_ | refine then_exit ?_ | refine then_ret ?_ | refine blk_n ?_ | refine blk_ret ?_ | refine blk_exit ?_ | refine blk_other rfl ?_ | refine then_k ?_
                    | refine awp_true rfl ?_
                    | refine awp_false rfl ?_
                    | refine awp_split rfl (fun hb => ?_) (fun hb => ?_)
                    | (refine isR ?_; first | refine x_far [] tb_ok rfl ?_ | refine r_nil ?_ | refine r_nild (by kernel_rfl) ?_ | refine x_call (begun_v _) ?_ | refine x_call (begun_v) ?_ | refine x_callS (c1 _) (fun hb => ?_) (fun hb => ?_) | refine x_callS (c1) (fun hb => ?_) (fun hb => ?_) | refine x_callS (c2 _) (fun hb => ?_) (fun hb => ?_) | refine x_callS (c2) (fun hb => ?_) (fun hb => ?_) | refine x_lssT ?_ | refine x_lssF ?_ | refine x_lss (fun hc => ?_) (fun hc => ?_) | refine x_neqT ?_ | refine x_neqF ?_ | refine x_neq (fun hc => ?_) (fun hc => ?_) | refine x_neqB ?_ | refine x_neqST ?_ | refine x_neqSF ?_ | refine x_neqS (fun hc => ?_) (fun hc => ?_) | refine x_neqI ?_ | refine x_neqN ?_ | refine x_neqA tb_ok ?_ | refine x_neqAS tb_ok (fun hc => ?_) (fun hc => ?_))
                    | refine x_ret ?_
                    | refine x_nor ?_
                    | exact x_le)
                all_goals first | rfl | (show V.bool _ = V.bool _; simp_all)
          · skip
            cases g5
            · skip
              refine funG5 tb_ok Tryd.func4 rfl Tryd.ntmps4 Tryd.results4 rfl fun N => ?_
              repeat' (first
                  | with_reducible first | refine awp_seq ?_ | refine awp_region ?_ | refine awp_draw mixed ?_ | refine then_n ?_ | refine awp_skip ?_ | refine awp_block ?_ | refine awp_exit ?_ | refine awp_ret ?_ | refine awp_label ?_ | refine then_exit ?_ | refine then_ret ?_ | refine blk_n ?_ | refine blk_ret ?_ | refine blk_exit ?_ | refine blk_other rfl ?_ | refine then_k ?_
                  | refine awp_true rfl ?_
                  | refine awp_false rfl ?_
                  | refine awp_split rfl (fun hb => ?_) (fun hb => ?_)
                  | (refine isR ?_; first | refine x_far [] tb_ok rfl ?_ | refine r_nil ?_ | refine r_nild (by kernel_rfl) ?_ | refine x_call (begun_v _) ?_ | refine x_call (begun_v) ?_ | refine x_lssT ?_ | refine x_lssF ?_ | refine x_lss (fun hc => ?_) (fun hc => ?_) | refine x_neqT ?_ | refine x_neqF ?_ | refine x_neq (fun hc => ?_) (fun hc => ?_) | refine x_neqB ?_ | refine x_neqST ?_ | refine x_neqSF ?_ | refine x_neqS (fun hc => ?_) (fun hc => ?_) | refine x_neqI ?_ | refine x_neqN ?_ | refine x_neqA tb_ok ?_ | refine x_neqAS tb_ok (fun hc => ?_) (fun hc => ?_))
                  | refine x_ret ?_
                  | refine x_nor ?_
                  | exact x_le)
              rfl
            · skip
              cases g3
              · skip
                refine funG5 tb_ok Tryd.func4 rfl Tryd.ntmps4 Tryd.results4 rfl fun N => ?_
                repeat' (first
                    | with_reducible first | refine awp_seq ?_ | refine awp_region ?_ | refine awp_draw mixed ?_ | refine then_n ?_ | refine awp_skip ?_ | refine awp_block ?_ | refine awp_exit ?_ | refine awp_ret ?_ | refine awp_label ?_ | refine then_exit ?_ | refine then_ret ?_ | refine blk_n ?_ | refine blk_ret ?_ | refine blk_exit ?_ | refine blk_other rfl ?_ | refine then_k ?_
                    | refine awp_true rfl ?_
                    | refine awp_false rfl ?_
                    | refine awp_split rfl (fun hb => ?_) (fun hb => ?_)
                    | (refine isR ?_; first | refine x_far [] tb_ok rfl ?_ | refine r_nil ?_ | refine r_nild (by kernel_rfl) ?_ | refine x_call (begun_v _) ?_ | refine x_call (begun_v) ?_ | refine x_callS (c1 _) (fun hb => ?_) (fun hb => ?_) | refine x_callS (c1) (fun hb => ?_) (fun hb => ?_) | refine x_callS (c2 _) (fun hb => ?_) (fun hb => ?_) | refine x_callS (c2) (fun hb => ?_) (fun hb => ?_) | refine x_lssT ?_ | refine x_lssF ?_ | refine x_lss (fun hc => ?_) (fun hc => ?_) | refine x_neqT ?_ | refine x_neqF ?_ | refine x_neq (fun hc => ?_) (fun hc => ?_) | refine x_neqB ?_ | refine x_neqST ?_ | refine x_neqSF ?_ | refine x_neqS (fun hc => ?_) (fun hc => ?_) | refine x_neqI ?_ | refine x_neqN ?_ | refine x_neqA tb_ok ?_ | refine x_neqAS tb_ok (fun hc => ?_) (fun hc => ?_))
                    | refine x_ret ?_
                    | refine x_nor ?_
                    | exact x_le)
                all_goals first | rfl | (show V.bool _ = V.bool _; simp_all)
              · skip
                cases f3
                · skip
                  refine funG5 tb_ok Tryd.func4 rfl Tryd.ntmps4 Tryd.results4 rfl fun N => ?_
                  repeat' (first
                      | with_reducible first | refine awp_seq ?_ | refine awp_region ?_ | refine awp_draw mixed ?_ | refine then_n ?_ | refine awp_skip ?_ | refine awp_block ?_ | refine awp_exit ?_ | refine awp_ret ?_ | refine awp_label ?_ | refine then_exit ?_ | refine then_ret ?_ | refine blk_n ?_ | refine blk_ret ?_ | refine blk_exit ?_ | refine blk_other rfl ?_ | refine then_k ?_
                      | refine awp_true rfl ?_
                      | refine awp_false rfl ?_
                      | refine awp_split rfl (fun hb => ?_) (fun hb => ?_)
                      | (refine isR ?_; first | refine x_far [] tb_ok rfl ?_ | refine r_nil ?_ | refine r_nild (by kernel_rfl) ?_ | refine x_call (begun_v _) ?_ | refine x_call (begun_v) ?_ | refine x_lssT ?_ | refine x_lssF ?_ | refine x_lss (fun hc => ?_) (fun hc => ?_) | refine x_neqT ?_ | refine x_neqF ?_ | refine x_neq (fun hc => ?_) (fun hc => ?_) | refine x_neqB ?_ | refine x_neqST ?_ | refine x_neqSF ?_ | refine x_neqS (fun hc => ?_) (fun hc => ?_) | refine x_neqI ?_ | refine x_neqN ?_ | refine x_neqA tb_ok ?_ | refine x_neqAS tb_ok (fun hc => ?_) (fun hc => ?_))
                      | refine x_ret ?_
                      | refine x_nor ?_
                      | exact x_le)
                  rfl
                · skip
                  refine funG5 tb_ok Tryd.func4 rfl Tryd.ntmps4 Tryd.results4 rfl fun N => ?_
                  repeat' (first
                      | with_reducible first | refine awp_seq ?_ | refine awp_region ?_ | refine awp_draw mixed ?_ | refine then_n ?_ | refine awp_skip ?_ | refine awp_block ?_ | refine awp_exit ?_ | refine awp_ret ?_ | refine awp_label ?_ | refine then_exit ?_ | refine then_ret ?_ | refine blk_n ?_ | refine blk_ret ?_ | refine blk_exit ?_ | refine blk_other rfl ?_ | refine then_k ?_
                      | refine awp_true rfl ?_
                      | refine awp_false rfl ?_
                      | refine awp_split rfl (fun hb => ?_) (fun hb => ?_)
                      | (refine isR ?_; first | refine x_far [] tb_ok rfl ?_ | refine r_nil ?_ | refine r_nild (by kernel_rfl) ?_ | refine x_call (begun_v _) ?_ | refine x_call (begun_v) ?_ | refine x_callS (c1 _) (fun hb => ?_) (fun hb => ?_) | refine x_callS (c1) (fun hb => ?_) (fun hb => ?_) | refine x_callS (c2 _) (fun hb => ?_) (fun hb => ?_) | refine x_callS (c2) (fun hb => ?_) (fun hb => ?_) | refine x_lssT ?_ | refine x_lssF ?_ | refine x_lss (fun hc => ?_) (fun hc => ?_) | refine x_neqT ?_ | refine x_neqF ?_ | refine x_neq (fun hc => ?_) (fun hc => ?_) | refine x_neqB ?_ | refine x_neqST ?_ | refine x_neqSF ?_ | refine x_neqS (fun hc => ?_) (fun hc => ?_) | refine x_neqI ?_ | refine x_neqN ?_ | refine x_neqA tb_ok ?_ | refine x_neqAS tb_ok (fun hc => ?_) (fun hc => ?_))
                      | refine x_ret ?_
                      | refine x_nor ?_
                      | exact x_le)
                  all_goals first | rfl | (show V.bool _ = V.bool _; simp_all)
        · skip
          cases g4
          · skip
            refine funG5 tb_ok Tryd.func4 rfl Tryd.ntmps4 Tryd.results4 rfl fun N => ?_
            repeat' (first
                | with_reducible first | refine awp_seq ?_ | refine awp_region ?_ | refine awp_draw mixed ?_ | refine then_n ?_ | refine awp_skip ?_ | refine awp_block ?_ | refine awp_exit ?_ | refine awp_ret ?_ | refine awp_label ?_ | refine then_exit ?_ | refine then_ret ?_ | refine blk_n ?_ | refine blk_ret ?_ | refine blk_exit ?_ | refine blk_other rfl ?_ | refine then_k ?_
                | refine awp_true rfl ?_
                | refine awp_false rfl ?_
                | refine awp_split rfl (fun hb => ?_) (fun hb => ?_)
                | (refine isR ?_; first | refine x_far [] tb_ok rfl ?_ | refine r_nil ?_ | refine r_nild (by kernel_rfl) ?_ | refine x_call (begun_v _) ?_ | refine x_call (begun_v) ?_ | refine x_lssT ?_ | refine x_lssF ?_ | refine x_lss (fun hc => ?_) (fun hc => ?_) | refine x_neqT ?_ | refine x_neqF ?_ | refine x_neq (fun hc => ?_) (fun hc => ?_) | refine x_neqB ?_ | refine x_neqST ?_ | refine x_neqSF ?_ | refine x_neqS (fun hc => ?_) (fun hc => ?_) | refine x_neqI ?_ | refine x_neqN ?_ | refine x_neqA tb_ok ?_ | refine x_neqAS tb_ok (fun hc => ?_) (fun hc => ?_))
                | refine x_ret ?_
                | refine x_nor ?_
                | exact x_le)
            rfl
          · skip
            cases f5
            · skip
              cases g3
              · skip
                refine funG5 tb_ok Tryd.func4 rfl Tryd.ntmps4 Tryd.results4 rfl fun N => ?_
                repeat' (first
                    | with_reducible first | refine awp_seq ?_ | refine awp_region ?_ | refine awp_draw mixed ?_ | refine then_n ?_ | refine awp_skip ?_ | refine awp_block ?_ | refine awp_exit ?_ | refine awp_ret ?_ | refine awp_label ?_ | refine then_exit ?_ | refine then_ret ?_ | refine blk_n ?_ | refine blk_ret ?_ | refine blk_exit ?_ | refine blk_other rfl ?_ | refine then_k ?_
                    | refine awp_true rfl ?_
                    | refine awp_false rfl ?_
                    | refine awp_split rfl (fun hb => ?_) (fun hb => ?_)
                    | (refine isR ?_; first | refine x_far [] tb_ok rfl ?_ | refine r_nil ?_ | refine r_nild (by kernel_rfl) ?_ | refine x_call (begun_v _) ?_ | refine x_call (begun_v) ?_ | refine x_callS (c1 _) (fun hb => ?_) (fun hb => ?_) | refine x_callS (c1) (fun hb => ?_) (fun hb => ?_) | refine x_callS (c2 _) (fun hb => ?_) (fun hb => ?_) | refine x_callS (c2) (fun hb => ?_) (fun hb => ?_) | refine x_lssT ?_ | refine x_lssF ?_ | refine x_lss (fun hc => ?_) (fun hc => ?_) | refine x_neqT ?_ | refine x_neqF ?_ | refine x_neq (fun hc => ?_) (fun hc => ?_) | refine x_neqB ?_ | refine x_neqST ?_ | refine x_neqSF ?_ | refine x_neqS (fun hc => ?_) (fun hc => ?_) | refine x_neqI ?_ | refine x_neqN ?_ | refine x_neqA tb_ok ?_ | refine x_neqAS tb_ok (fun hc => ?_) (fun hc => ?_))
                    | refine x_ret ?_
                    | refine x_nor ?_
                    | exact x_le)
                all_goals first | rfl | (show V.bool _ = V.bool _; simp_all)
              · skip
                cases f3
                · skip
                  refine funG5 tb_ok Tryd.func4 rfl Tryd.ntmps4 Tryd.results4 rfl fun N => ?_
                  repeat' (first
                      | with_reducible first | refine awp_seq ?_ | refine awp_region ?_ | refine awp_draw mixed ?_ | refine then_n ?_ | refine awp_skip ?_ | refine awp_block ?_ | refine awp_exit ?_ | refine awp_ret ?_ | refine awp_label ?_ | refine then_exit ?_ | refine then_ret ?_ | refine blk_n ?_ | refine blk_ret ?_ | refine blk_exit ?_ | refine blk_other rfl ?_ | refine then_k ?_
                      | refine awp_true rfl ?_
                      | refine awp_false rfl ?_
                      | refine awp_split rfl (fun hb => ?_) (fun hb => ?_)
                      | (refine isR ?_; first | refine x_far [] tb_ok rfl ?_ | refine r_nil ?_ | refine r_nild (by kernel_rfl) ?_ | refine x_call (begun_v _) ?_ | refine x_call (begun_v) ?_ | refine x_lssT ?_ | refine x_lssF ?_ | refine x_lss (fun hc => ?_) (fun hc => ?_) | refine x_neqT ?_ | refine x_neqF ?_ | refine x_neq (fun hc => ?_) (fun hc => ?_) | refine x_neqB ?_ | refine x_neqST ?_ | refine x_neqSF ?_ | refine x_neqS (fun hc => ?_) (fun hc => ?_) | refine x_neqI ?_ | refine x_neqN ?_ | refine x_neqA tb_ok ?_ | refine x_neqAS tb_ok (fun hc => ?_) (fun hc => ?_))
                      | refine x_ret ?_
                      | refine x_nor ?_
                      | exact x_le)
                  rfl
                · skip
                  refine funG5 tb_ok Tryd.func4 rfl Tryd.ntmps4 Tryd.results4 rfl fun N => ?_
                  repeat' (first
                      | with_reducible first | refine awp_seq ?_ | refine awp_region ?_ | refine awp_draw mixed ?_ | refine then_n ?_ | refine awp_skip ?_ | refine awp_block ?_ | refine awp_exit ?_ | refine awp_ret ?_ | refine awp_label ?_ | refine then_exit ?_ | refine then_ret ?_ | refine blk_n ?_ | refine blk_ret ?_ | refine blk_exit ?_ | refine blk_other rfl ?_ | refine then_k ?_
                      | refine awp_true rfl ?_
                      | refine awp_false rfl ?_
                      | refine awp_split rfl (fun hb => ?_) (fun hb => ?_)
                      | (refine isR ?_; first | refine x_far [] tb_ok rfl ?_ | refine r_nil ?_ | refine r_nild (by kernel_rfl) ?_ | refine x_call (begun_v _) ?_ | refine x_call (begun_v) ?_ | refine x_callS (c1 _) (fun hb => ?_) (fun hb => ?_) | refine x_callS (c1) (fun hb => ?_) (fun hb => ?_) | refine x_callS (c2 _) (fun hb => ?_) (fun hb => ?_) | refine x_callS (c2) (fun hb => ?_) (fun hb => ?_) | refine x_lssT ?_ | refine x_lssF ?_ | refine x_lss (fun hc => ?_) (fun hc => ?_) | refine x_neqT ?_ | refine x_neqF ?_ | refine x_neq (fun hc => ?_) (fun hc => ?_) | refine x_neqB ?_ | refine x_neqST ?_ | refine x_neqSF ?_ | refine x_neqS (fun hc => ?_) (fun hc => ?_) | refine x_neqI ?_ | refine x_neqN ?_ | refine x_neqA tb_ok ?_ | refine x_neqAS tb_ok (fun hc => ?_) (fun hc => ?_))
                      | refine x_ret ?_
                      | refine x_nor ?_
                      | exact x_le)
                  all_goals first | rfl | (show V.bool _ = V.bool _; simp_all)
            · skip
              cases g5
              · skip
                refine funG5 tb_ok Tryd.func4 rfl Tryd.ntmps4 Tryd.results4 rfl fun N => ?_
                repeat' (first
                    | with_reducible first | refine awp_seq ?_ | refine awp_region ?_ | refine awp_draw mixed ?_ | refine then_n ?_ | refine awp_skip ?_ | refine awp_block ?_ | refine awp_exit ?_ | refine awp_ret ?_ | refine awp_label ?_ | refine then_exit ?_ | refine then_ret ?_ | refine blk_n ?_ | refine blk_ret ?_ | refine blk_exit ?_ | refine blk_other rfl ?_ | refine then_k ?_
                    | refine awp_true rfl ?_
                    | refine awp_false rfl ?_
                    | refine awp_split rfl (fun hb => ?_) (fun hb => ?_)
                    | (refine isR ?_; first | refine x_far [] tb_ok rfl ?_ | refine r_nil ?_ | refine r_nild (by kernel_rfl) ?_ | refine x_call (begun_v _) ?_ | refine x_call (begun_v) ?_ | refine x_lssT ?_ | refine x_lssF ?_ | refine x_lss (fun hc => ?_) (fun hc => ?_) | refine x_neqT ?_ | refine x_neqF ?_ | refine x_neq (fun hc => ?_) (fun hc => ?_) | refine x_neqB ?_ | refine x_neqST ?_ | refine x_neqSF ?_ | refine x_neqS (fun hc => ?_) (fun hc => ?_) | refine x_neqI ?_ | refine x_neqN ?_ | refine x_neqA tb_ok ?_ | refine x_neqAS tb_ok (fun hc => ?_) (fun hc => ?_))
                    | refine x_ret ?_
                    | refine x_nor ?_
                    | exact x_le)
                rfl
              · skip
                cases g3
                · skip
                  refine funG5 tb_ok Tryd.func4 rfl Tryd.ntmps4 Tryd.results4 rfl fun N => ?_
                  repeat' (first
                      | with_reducible first | refine awp_seq ?_ | refine awp_region ?_ | refine awp_draw mixed ?_ | refine then_n ?_ | refine awp_skip ?_ | refine awp_block ?_ | refine awp_exit ?_ | refine awp_ret ?_ | refine awp_label ?_ | refine then_exit ?_ | refine then_ret ?_ | refine blk_n ?_ | refine blk_ret ?_ | refine blk_exit ?_ | refine blk_other rfl ?_ | refine then_k ?_
                      | refine awp_true rfl ?_
                      | refine awp_false rfl ?_
                      | refine awp_split rfl (fun hb => ?_) (fun hb => ?_)
                      | (refine isR ?_; first | refine x_far [] tb_ok rfl ?_ | refine r_nil ?_ | refine r_nild (by kernel_rfl) ?_ | refine x_call (begun_v _) ?_ | refine x_call (begun_v) ?_ | refine x_callS (c1 _) (fun hb => ?_) (fun hb => ?_) | refine x_callS (c1) (fun hb => ?_) (fun hb => ?_) | refine x_callS (c2 _) (fun hb => ?_) (fun hb => ?_) | refine x_callS (c2) (fun hb => ?_) (fun hb => ?_) | refine x_lssT ?_ | refine x_lssF ?_ | refine x_lss (fun hc => ?_) (fun hc => ?_) | refine x_neqT ?_ | refine x_neqF ?_ | refine x_neq (fun hc => ?_) (fun hc => ?_) | refine x_neqB ?_ | refine x_neqST ?_ | refine x_neqSF ?_ | refine x_neqS (fun hc => ?_) (fun hc => ?_) | refine x_neqI ?_ | refine x_neqN ?_ | refine x_neqA tb_ok ?_ | refine x_neqAS tb_ok (fun hc => ?_) (fun hc => ?_))
                      | refine x_ret ?_
                      | refine x_nor ?_
                      | exact x_le)
                  all_goals first | rfl | (show V.bool _ = V.bool _; simp_all)
                · skip
                  cases f3
                  · skip
                    refine funG5 tb_ok Tryd.func4 rfl Tryd.ntmps4 Tryd.results4 rfl fun N => ?_
                    repeat' (first
                        | with_reducible first | refine awp_seq ?_ | refine awp_region ?_ | refine awp_draw mixed ?_ | refine then_n ?_ | refine awp_skip ?_ | refine awp_block ?_ | refine awp_exit ?_ | refine awp_ret ?_ | refine awp_label ?_ | refine then_exit ?_ | refine then_ret ?_ | refine blk_n ?_ | refine blk_ret ?_ | refine blk_exit ?_ | refine blk_other rfl ?_ | refine then_k ?_
                        | refine awp_true rfl ?_
                        | refine awp_false rfl ?_
                        | refine awp_split rfl (fun hb => ?_) (fun hb => ?_)
                        | (refine isR ?_; first | refine x_far [] tb_ok rfl ?_ | refine r_nil ?_ | refine r_nild (by kernel_rfl) ?_ | refine x_call (begun_v _) ?_ | refine x_call (begun_v) ?_ | refine x_lssT ?_ | refine x_lssF ?_ | refine x_lss (fun hc => ?_) (fun hc => ?_) | refine x_neqT ?_ | refine x_neqF ?_ | refine x_neq (fun hc => ?_) (fun hc => ?_) | refine x_neqB ?_ | refine x_neqST ?_ | refine x_neqSF ?_ | refine x_neqS (fun hc => ?_) (fun hc => ?_) | refine x_neqI ?_ | refine x_neqN ?_ | refine x_neqA tb_ok ?_ | refine x_neqAS tb_ok (fun hc => ?_) (fun hc => ?_))
                        | refine x_ret ?_
                        | refine x_nor ?_
                        | exact x_le)
                    rfl
                  · skip
                    refine funG5 tb_ok Tryd.func4 rfl Tryd.ntmps4 Tryd.results4 rfl fun N => ?_
                    repeat' (first
                        | with_reducible first | refine awp_seq ?_ | refine awp_region ?_ | refine awp_draw mixed ?_ | refine then_n ?_ | refine awp_skip ?_ | refine awp_block ?_ | refine awp_exit ?_ | refine awp_ret ?_ | refine awp_label ?_ | refine then_exit ?_ | refine then_ret ?_ | refine blk_n ?_ | refine blk_ret ?_ | refine blk_exit ?_ | refine blk_other rfl ?_ | refine then_k ?_
                        | refine awp_true rfl ?_
                        | refine awp_false rfl ?_
                        | refine awp_split rfl (fun hb => ?_) (fun hb => ?_)
                        | (refine isR ?_; first | refine x_far [] tb_ok rfl ?_ | refine r_nil ?_ | refine r_nild (by kernel_rfl) ?_ | refine x_call (begun_v _) ?_ | refine x_call (begun_v) ?_ | refine x_callS (c1 _) (fun hb => ?_) (fun hb => ?_) | refine x_callS (c1) (fun hb => ?_) (fun hb => ?_) | refine x_callS (c2 _) (fun hb => ?_) (fun hb => ?_) | refine x_callS (c2) (fun hb => ?_) (fun hb => ?_) | refine x_lssT ?_ | refine x_lssF ?_ | refine x_lss (fun hc => ?_) (fun hc => ?_) | refine x_neqT ?_ | refine x_neqF ?_ | refine x_neq (fun hc => ?_) (fun hc => ?_) | refine x_neqB ?_ | refine x_neqST ?_ | refine x_neqSF ?_ | refine x_neqS (fun hc => ?_) (fun hc => ?_) | refine x_neqI ?_ | refine x_neqN ?_ | refine x_neqA tb_ok ?_ | refine x_neqAS tb_ok (fun hc => ?_) (fun hc => ?_))
                        | refine x_ret ?_
                        | refine x_nor ?_
                        | exact x_le)
                    all_goals first | rfl | (show V.bool _ = V.bool _; simp_all)
      · skip
        refine funG5 tb_ok Tryd.func4 rfl Tryd.ntmps4 Tryd.results4 rfl fun N => ?_
        repeat' (first
            | with_reducible first | refine awp_seq ?_ | refine awp_region ?_ | refine awp_draw mixed ?_ | refine then_n ?_ | refine awp_skip ?_ | refine awp_block ?_ | refine awp_exit ?_ | refine awp_ret ?_ | refine awp_label ?_ | refine then_exit ?_ | refine then_ret ?_ | refine blk_n ?_ | refine blk_ret ?_ | refine blk_exit ?_ | refine blk_other rfl ?_ | refine then_k ?_
            | refine awp_true rfl ?_
            | refine awp_false rfl ?_
            | refine awp_split rfl (fun hb => ?_) (fun hb => ?_)
            | (refine isR ?_; first | refine x_far [] tb_ok rfl ?_ | refine r_nil ?_ | refine r_nild (by kernel_rfl) ?_ | refine x_call (begun_v _) ?_ | refine x_call (begun_v) ?_ | refine x_lssT ?_ | refine x_lssF ?_ | refine x_lss (fun hc => ?_) (fun hc => ?_) | refine x_neqT ?_ | refine x_neqF ?_ | refine x_neq (fun hc => ?_) (fun hc => ?_) | refine x_neqB ?_ | refine x_neqST ?_ | refine x_neqSF ?_ | refine x_neqS (fun hc => ?_) (fun hc => ?_) | refine x_neqI ?_ | refine x_neqN ?_ | refine x_neqA tb_ok ?_ | refine x_neqAS tb_ok (fun hc => ?_) (fun hc => ?_))
            | refine x_ret ?_
            | refine x_nor ?_
            | exact x_le)
        rfl
    · skip
      refine funG5 tb_ok Tryd.func4 rfl Tryd.ntmps4 Tryd.results4 rfl fun N => ?_
      repeat' (first
          | with_reducible first | refine awp_seq ?_ | refine awp_region ?_ | refine awp_draw mixed ?_ | refine then_n ?_ | refine awp_skip ?_ | refine awp_block ?_ | refine awp_exit ?_ | refine awp_ret ?_ | refine awp_label ?_ | refine then_exit ?_ | refine then_ret ?_ | refine blk_n ?_ | refine blk_ret ?_ | refine blk_exit ?_ | refine blk_other rfl ?_ | refine then_k ?_
          | refine awp_true rfl ?_
          | refine awp_false rfl ?_
          | refine awp_split rfl (fun hb => ?_) (fun hb => ?_)
          | (refine isR ?_; first | refine x_far [] tb_ok rfl ?_ | refine r_nil ?_ | refine r_nild (by kernel_rfl) ?_ | refine x_call (begun_v _) ?_ | refine x_call (begun_v) ?_ | refine x_lssT ?_ | refine x_lssF ?_ | refine x_lss (fun hc => ?_) (fun hc => ?_) | refine x_neqT ?_ | refine x_neqF ?_ | refine x_neq (fun hc => ?_) (fun hc => ?_) | refine x_neqB ?_ | refine x_neqST ?_ | refine x_neqSF ?_ | refine x_neqS (fun hc => ?_) (fun hc => ?_) | refine x_neqI ?_ | refine x_neqN ?_ | refine x_neqA tb_ok ?_ | refine x_neqAS tb_ok (fun hc => ?_) (fun hc => ?_))
          | refine x_ret ?_
          | refine x_nor ?_
          | exact x_le)
      rfl
set_option maxRecDepth 100000 in
set_option maxHeartbeats 4000000 in
theorem deeper_law {c : Cookie} {f : From} {now : Int} {h p : List UInt8} (hd : c.domain.length ≤ 4398046511104) (hf : f.host.length ≤ 4398046511104) (hh : h.length ≤ 4398046511104) : ACallsG Tryd.prog gStr 5 [c.v, f.v, .int .i64 now, strT h, strT p] (.bool true) := by
  have c1 := goes_v (c := c) (f := f) (now := now) hd hf
  cases hg : goesF c f now with
  | false =>
    rw [hg] at c1
    refine funG5 tb_ok Tryd.func5 rfl Tryd.ntmps5 Tryd.results5 rfl fun N => ?_
    repeat' (first
        | with_reducible first | refine awp_seq ?_ | refine awp_region ?_ | refine awp_draw mixed ?_ | refine then_n ?_ | refine awp_skip ?_ | refine awp_block ?_ | refine awp_exit ?_ | refine awp_ret ?_ | refine awp_label ?_ | refine then_exit ?_ | refine then_ret ?_ | refine blk_n ?_ | refine blk_ret ?_ | refine blk_exit ?_ | refine blk_other rfl ?_ | refine then_k ?_
        | refine awp_true rfl ?_
        | refine awp_false rfl ?_
        | refine awp_split rfl (fun hb => ?_) (fun hb => ?_)
        | (refine isR ?_; first | refine x_far [] tb_ok rfl ?_ | refine r_nil ?_ | refine r_nild (by kernel_rfl) ?_ | refine x_call (begun_v _) ?_ | refine x_call (begun_v) ?_ | refine x_call (c1 _) ?_ | refine x_call (c1) ?_)
        | refine x_ret ?_
        | refine x_nor ?_
        | exact x_le)
    rfl
  | true =>
    have c2 := pathMatch_v (p := p) (o := f.path)
    have c3 := isMatch_v (l := h) (m := f.host) hh hf
    obtain ⟨f1, f2, f3, f4, f5⟩ := f
    obtain ⟨d1, d2, d3, d4, d5, d6, d7, d8, d9, d10, d11, d12, d13⟩ := c
    dsimp only at *
    have n1 := goes_v (c := ⟨d1, d2, d3, d4, d5, d6, d7, d8, d9, d10, d11, d12, d13⟩) (f := ⟨f1, f2, f3, f4, f5⟩) (now := now) hd hf
    have n2 := goes_v (c := ⟨d1, d2, d3, d4, d5, d6, d7, d8, d9, d10, d11, d12, d13⟩) (f := ⟨f1, p, f3, f4, f5⟩) (now := now) hd hf
    have n3 := goes_v (c := ⟨d1, d2, d3, d4, d5, d6, d7, d8, d9, d10, d11, d12, d13⟩) (f := ⟨h, f2, f3, f4, f5⟩) (now := now) hd hh
    have n4 := goes_v (c := ⟨d1, d2, d3, d4, d5, d6, d7, d8, d9, d10, d11, d12, d13⟩) (f := ⟨h, p, f3, f4, f5⟩) (now := now) hd hh
    rw [hg] at c1
    cases hp : pathF p f2
    · rw [hp] at c2
      cases d5
      · cases hm : matchF h f1
        · rw [hm] at c3
          refine funG5 tb_ok Tryd.func5 rfl Tryd.ntmps5 Tryd.results5 rfl fun N => ?_
          repeat' (first
              | with_reducible first | refine awp_seq ?_ | refine awp_region ?_ | refine awp_draw mixed ?_ | refine then_n ?_ | refine awp_skip ?_ | refine awp_block ?_ | refine awp_exit ?_ | refine awp_ret ?_ | refine awp_label ?_ | refine then_exit ?_ | refine then_ret ?_ | refine blk_n ?_ | refine blk_ret ?_ | refine blk_exit ?_ | refine blk_other rfl ?_ | refine then_k ?_
              | refine awp_true rfl ?_
              | refine awp_false rfl ?_
              | refine awp_split rfl (fun hb => ?_) (fun hb => ?_)
              | (refine isR ?_; first | refine x_far [] tb_ok rfl ?_ | refine r_nil ?_ | refine r_nild (by kernel_rfl) ?_ | refine x_call (begun_v _) ?_ | refine x_call (begun_v) ?_ | refine x_call (c1 _) ?_ | refine x_call (c1) ?_ | refine x_call (c2 _) ?_ | refine x_call (c2) ?_ | refine x_call (c3 _) ?_ | refine x_call (c3) ?_)
              | refine x_ret ?_
              | refine x_nor ?_
              | exact x_le)
          rfl
        · rw [hm] at c3
          rw [goes_deeper (f := ⟨f1, f2, f3, f4, f5⟩) (g := ⟨h, f2, f3, f4, f5⟩) rfl rfl rfl (.inr rfl) (.inr ⟨rfl, hm⟩) hg] at n3
          refine funG5 tb_ok Tryd.func5 rfl Tryd.ntmps5 Tryd.results5 rfl fun N => ?_
          repeat' (first
              | with_reducible first | refine awp_seq ?_ | refine awp_region ?_ | refine awp_draw mixed ?_ | refine then_n ?_ | refine awp_skip ?_ | refine awp_block ?_ | refine awp_exit ?_ | refine awp_ret ?_ | refine awp_label ?_ | refine then_exit ?_ | refine then_ret ?_ | refine blk_n ?_ | refine blk_ret ?_ | refine blk_exit ?_ | refine blk_other rfl ?_ | refine then_k ?_
              | refine awp_true rfl ?_
              | refine awp_false rfl ?_
              | refine awp_split rfl (fun hb => ?_) (fun hb => ?_)
              | (refine isR ?_; first | refine x_far [] tb_ok rfl ?_ | refine r_nil ?_ | refine r_nild (by kernel_rfl) ?_ | refine x_call (begun_v _) ?_ | refine x_call (begun_v) ?_ | refine x_call (c1 _) ?_ | refine x_call (c1) ?_ | refine x_call (c2 _) ?_ | refine x_call (c2) ?_ | refine x_call (c3 _) ?_ | refine x_call (c3) ?_ | refine x_call (n3 _) ?_ | refine x_call (n3) ?_)
              | refine x_ret ?_
              | refine x_nor ?_
              | exact x_le)
          rfl
      · skip
        refine funG5 tb_ok Tryd.func5 rfl Tryd.ntmps5 Tryd.results5 rfl fun N => ?_
        repeat' (first
            | with_reducible first | refine awp_seq ?_ | refine awp_region ?_ | refine awp_draw mixed ?_ | refine then_n ?_ | refine awp_skip ?_ | refine awp_block ?_ | refine awp_exit ?_ | refine awp_ret ?_ | refine awp_label ?_ | refine then_exit ?_ | refine then_ret ?_ | refine blk_n ?_ | refine blk_ret ?_ | refine blk_exit ?_ | refine blk_other rfl ?_ | refine then_k ?_
            | refine awp_true rfl ?_
            | refine awp_false rfl ?_
            | refine awp_split rfl (fun hb => ?_) (fun hb => ?_)
            | (refine isR ?_; first | refine x_far [] tb_ok rfl ?_ | refine r_nil ?_ | refine r_nild (by kernel_rfl) ?_ | refine x_call (begun_v _) ?_ | refine x_call (begun_v) ?_ | refine x_call (c1 _) ?_ | refine x_call (c1) ?_ | refine x_call (c2 _) ?_ | refine x_call (c2) ?_)
            | refine x_ret ?_
            | refine x_nor ?_
            | exact x_le)
        rfl
    · rw [hp] at c2
      cases d5
      · cases hm : matchF h f1
        · rw [hm] at c3
          rw [goes_deeper (f := ⟨f1, f2, f3, f4, f5⟩) (g := ⟨f1, p, f3, f4, f5⟩) rfl rfl rfl (.inl hp) (.inl rfl) hg] at n2
          refine funG5 tb_ok Tryd.func5 rfl Tryd.ntmps5 Tryd.results5 rfl fun N => ?_
          repeat' (first
              | with_reducible first | refine awp_seq ?_ | refine awp_region ?_ | refine awp_draw mixed ?_ | refine then_n ?_ | refine awp_skip ?_ | refine awp_block ?_ | refine awp_exit ?_ | refine awp_ret ?_ | refine awp_label ?_ | refine then_exit ?_ | refine then_ret ?_ | refine blk_n ?_ | refine blk_ret ?_ | refine blk_exit ?_ | refine blk_other rfl ?_ | refine then_k ?_
              | refine awp_true rfl ?_
              | refine awp_false rfl ?_
              | refine awp_split rfl (fun hb => ?_) (fun hb => ?_)
              | (refine isR ?_; first | refine x_far [] tb_ok rfl ?_ | refine r_nil ?_ | refine r_nild (by kernel_rfl) ?_ | refine x_call (begun_v _) ?_ | refine x_call (begun_v) ?_ | refine x_call (c1 _) ?_ | refine x_call (c1) ?_ | refine x_call (c2 _) ?_ | refine x_call (c2) ?_ | refine x_call (c3 _) ?_ | refine x_call (c3) ?_ | refine x_call (n2 _) ?_ | refine x_call (n2) ?_)
              | refine x_ret ?_
              | refine x_nor ?_
              | exact x_le)
          rfl
        · rw [hm] at c3
          rw [goes_deeper (f := ⟨f1, f2, f3, f4, f5⟩) (g := ⟨h, p, f3, f4, f5⟩) rfl rfl rfl (.inl hp) (.inr ⟨rfl, hm⟩) hg] at n4
          refine funG5 tb_ok Tryd.func5 rfl Tryd.ntmps5 Tryd.results5 rfl fun N => ?_
          repeat' (first
              | with_reducible first | refine awp_seq ?_ | refine awp_region ?_ | refine awp_draw mixed ?_ | refine then_n ?_ | refine awp_skip ?_ | refine awp_block ?_ | refine awp_exit ?_ | refine awp_ret ?_ | refine awp_label ?_ | refine then_exit ?_ | refine then_ret ?_ | refine blk_n ?_ | refine blk_ret ?_ | refine blk_exit ?_ | refine blk_other rfl ?_ | refine then_k ?_
              | refine awp_true rfl ?_
              | refine awp_false rfl ?_
              | refine awp_split rfl (fun hb => ?_) (fun hb => ?_)
              | (refine isR ?_; first | refine x_far [] tb_ok rfl ?_ | refine r_nil ?_ | refine r_nild (by kernel_rfl) ?_ | refine x_call (begun_v _) ?_ | refine x_call (begun_v) ?_ | refine x_call (c1 _) ?_ | refine x_call (c1) ?_ | refine x_call (c2 _) ?_ | refine x_call (c2) ?_ | refine x_call (c3 _) ?_ | refine x_call (c3) ?_ | refine x_call (n4 _) ?_ | refine x_call (n4) ?_)
              | refine x_ret ?_
              | refine x_nor ?_
              | exact x_le)
          rfl
      · rw [goes_deeper (f := ⟨f1, f2, f3, f4, f5⟩) (g := ⟨f1, p, f3, f4, f5⟩) rfl rfl rfl (.inl hp) (.inl rfl) hg] at n2
        refine funG5 tb_ok Tryd.func5 rfl Tryd.ntmps5 Tryd.results5 rfl fun N => ?_
        repeat' (first
            | with_reducible first | refine awp_seq ?_ | refine awp_region ?_ | refine awp_draw mixed ?_ | refine then_n ?_ | refine awp_skip ?_ | refine awp_block ?_ | refine awp_exit ?_ | refine awp_ret ?_ | refine awp_label ?_ | refine then_exit ?_ | refine then_ret ?_ | refine blk_n ?_ | refine blk_ret ?_ | refine blk_exit ?_ | refine blk_other rfl ?_ | refine then_k ?_
            | refine awp_true rfl ?_
            | refine awp_false rfl ?_
            | refine awp_split rfl (fun hb => ?_) (fun hb => ?_)
            | (refine isR ?_; first | refine x_far [] tb_ok rfl ?_ | refine r_nil ?_ | refine r_nild (by kernel_rfl) ?_ | refine x_call (begun_v _) ?_ | refine x_call (begun_v) ?_ | refine x_call (c1 _) ?_ | refine x_call (c1) ?_ | refine x_call (c2 _) ?_ | refine x_call (c2) ?_ | refine x_call (n2 _) ?_ | refine x_call (n2) ?_)
            | refine x_ret ?_
            | refine x_nor ?_
            | exact x_le)
        rfl
end Go.Proofs.YtkgdkpiacencjaaDoor.GoesL
