/- The laws of public suffixes: the walks. -/
import Derived.Test.YtkgdkpiacencjaaDoorSufT
namespace Go.Proofs.YtkgdkpiacencjaaDoor.SufG
open Go.RowKit Mem Abs HostP HostO HostA HostB HostC HostD HostE HostF HostG TreeW WordP WordS Globs SufP SufW SufR SufQ SufT

def sufs : List Suffix := [⟨1, ([99, 111, 109] : List UInt8)⟩, ⟨1, ([99, 111, 46, 117, 107] : List UInt8)⟩, ⟨2, ([99, 107] : List UInt8)⟩, ⟨3, ([119, 119, 119, 46, 99, 107] : List UInt8)⟩]
theorem b1 : pubNo sufs ([97, 46, 98, 46, 99, 111, 46, 117, 107] : List UInt8) = (([99, 111, 46, 117, 107] : List UInt8), 0) := by decide +kernel
theorem b2 : ownF sufs ([97, 46, 98, 46, 99, 111, 46, 117, 107] : List UInt8) = (([98, 46, 99, 111, 46, 117, 107] : List UInt8), 0) := by decide +kernel
theorem b3 : pubNo sufs ([120, 46, 111, 116, 104, 101, 114, 46, 99, 107] : List UInt8) = (([111, 116, 104, 101, 114, 46, 99, 107] : List UInt8), 0) := by decide +kernel
theorem b4 : ownF sufs ([120, 46, 119, 119, 119, 46, 99, 107] : List UInt8) = (([119, 119, 119, 46, 99, 107] : List UInt8), 0) := by decide +kernel
theorem b5 : ownF sufs ([99, 111, 109] : List UInt8) = ([], 5) := by decide +kernel
theorem b6 : ownF sufs ([49, 48, 46, 48, 46, 48, 46, 49] : List UInt8) = (([49, 48, 46, 48, 46, 48, 46, 49] : List UInt8), 0) := by decide +kernel
theorem b7 : checkF [⟨3, ([99, 107] : List UInt8)⟩] = 1 := by decide +kernel
set_option maxRecDepth 100000 in
set_option maxHeartbeats 4000000 in
theorem suffixes_v : ACalls Tryd.prog 62 [] (sufT sufs) := by
  refine fun0 tb_ok Tryd.func62 rfl Tryd.ntmps62 Tryd.results62 fun N => ?_
  repeat' (first
      | with_reducible first | refine awp_seq ?_ | refine awp_region ?_ | refine awp_draw mixed ?_ | refine then_n ?_ | refine awp_skip ?_ | refine awp_block ?_ | refine awp_exit ?_ | refine awp_ret ?_ | refine awp_label ?_ | refine then_exit ?_ | refine then_ret ?_ | refine blk_n ?_ | refine blk_ret ?_ | refine blk_exit ?_ | refine blk_other rfl ?_ | refine then_k ?_
      | refine awp_true rfl ?_
      | refine awp_false rfl ?_
      | refine awp_split rfl (fun hb => ?_) (fun hb => ?_)
      | (refine isR ?_; first | refine x_far [] tb_ok rfl ?_ | refine r_nil ?_ | refine r_nild (by kernel_rfl) ?_ | refine x_bs tb_ok ?_)
      | refine x_ret ?_
      | refine x_nor ?_
      | exact x_le)
  rfl
set_option maxRecDepth 100000 in
set_option maxHeartbeats 4000000 in
theorem begun_v : ACallsG Tryd.prog gStr 34 [] (.bool true) := by
  have c1 := public_v (L := sufs) (h := ([97, 46, 98, 46, 99, 111, 46, 117, 107] : List UInt8))
  have c2 := owner_v (L := sufs) (h := ([97, 46, 98, 46, 99, 111, 46, 117, 107] : List UInt8))
  have c3 := public_v (L := sufs) (h := ([120, 46, 111, 116, 104, 101, 114, 46, 99, 107] : List UInt8))
  have c4 := owner_v (L := sufs) (h := ([120, 46, 119, 119, 119, 46, 99, 107] : List UInt8))
  have c5 := owner_v (L := sufs) (h := ([99, 111, 109] : List UInt8))
  have c6 := owner_v (L := sufs) (h := ([49, 48, 46, 48, 46, 48, 46, 49] : List UInt8))
  have c7 := check_v (L := [⟨3, ([99, 107] : List UInt8)⟩])
  rw [b1] at c1; rw [b2] at c2; rw [b3] at c3; rw [b4] at c4; rw [b5] at c5; rw [b6] at c6; rw [b7] at c7
  dsimp only [pairT] at c1 c2 c3 c4 c5 c6
  refine funG0 tb_ok Tryd.func34 rfl Tryd.ntmps34 Tryd.results34 fun N => ?_
  repeat' (first
      | with_reducible first | refine awp_seq ?_ | refine awp_region ?_ | refine awp_draw mixed ?_ | refine then_n ?_ | refine awp_skip ?_ | refine awp_block ?_ | refine awp_exit ?_ | refine awp_ret ?_ | refine awp_label ?_ | refine then_exit ?_ | refine then_ret ?_ | refine blk_n ?_ | refine blk_ret ?_ | refine blk_exit ?_ | refine blk_other rfl ?_ | refine then_k ?_
      | refine awp_true rfl ?_
      | refine awp_false rfl ?_
      | refine awp_split rfl (fun hb => ?_) (fun hb => ?_)
      | (refine isR ?_; first | refine x_far [] tb_ok rfl ?_ | refine r_nil ?_ | refine r_nild (by kernel_rfl) ?_ | refine x_call (suffixes_v _) ?_ | refine x_call (suffixes_v) ?_ | refine x_call (c1 _) ?_ | refine x_call (c1) ?_ | refine x_call (c2 _) ?_ | refine x_call (c2) ?_ | refine x_call (c3 _) ?_ | refine x_call (c3) ?_ | refine x_call (c4 _) ?_ | refine x_call (c4) ?_ | refine x_call (c5 _) ?_ | refine x_call (c5) ?_ | refine x_call (c6 _) ?_ | refine x_call (c6) ?_ | refine x_call (c7 _) ?_ | refine x_call (c7) ?_ | refine x_bs tb_ok ?_ | refine x_eqlT ?_ | refine x_eqlF ?_ | refine x_eql (fun hc => ?_) (fun hc => ?_) | refine x_eqlB ?_ | refine x_eqlST ?_ | refine x_eqlSF ?_ | refine x_eqlS (fun hc => ?_) (fun hc => ?_) | refine x_eqlI ?_ | refine x_eqlN ?_ | refine x_eqlA tb_ok ?_ | refine x_eqlAS tb_ok (fun hc => ?_) (fun hc => ?_))
      | refine x_ret ?_
      | refine x_nor ?_
      | exact x_le)
  rfl
set_option maxRecDepth 100000 in
set_option maxHeartbeats 4000000 in
theorem tells_law {L : List Suffix} {h : List UInt8} : ACallsG Tryd.prog gStr 10 [sufT L, strT h] (.bool true) := by
  have c1 := public_v (L := L) (h := h)
  have c2 := owner_v (L := L) (h := h)
  have c3 := publicNo_v (L := L) (h := h)
  have c4 := ownerOf_v (L := L) (h := h)
  have c5 := check_v (L := L)
  have c6 := suffixCheck_v (L := L)
  generalize pubNo L h = p at *
  generalize ownF L h = o at *
  generalize checkF L = n at *
  refine funG2 tb_ok Tryd.func10 rfl Tryd.ntmps10 Tryd.results10 rfl fun N => ?_
  repeat' (first
      | with_reducible first | refine awp_seq ?_ | refine awp_region ?_ | refine awp_draw mixed ?_ | refine then_n ?_ | refine awp_skip ?_ | refine awp_block ?_ | refine awp_exit ?_ | refine awp_ret ?_ | refine awp_label ?_ | refine then_exit ?_ | refine then_ret ?_ | refine blk_n ?_ | refine blk_ret ?_ | refine blk_exit ?_ | refine blk_other rfl ?_ | refine then_k ?_
      | refine awp_true rfl ?_
      | refine awp_false rfl ?_
      | refine awp_split rfl (fun hb => ?_) (fun hb => ?_)
      | (refine isR ?_; first | refine x_far [] tb_ok rfl ?_ | refine r_nil ?_ | refine r_nild (by kernel_rfl) ?_ | refine x_call (c1 _) ?_ | refine x_call (c1) ?_ | refine x_call (c2 _) ?_ | refine x_call (c2) ?_ | refine x_call (c3 _) ?_ | refine x_call (c3) ?_ | refine x_call (c4 _) ?_ | refine x_call (c4) ?_ | refine x_call (begun_v _) ?_ | refine x_call (begun_v) ?_ | refine x_call (c5 _) ?_ | refine x_call (c5) ?_ | refine x_call (c6 _) ?_ | refine x_call (c6) ?_ | refine x_eqlT ?_ | refine x_eqlF ?_ | refine x_eql (fun hc => ?_) (fun hc => ?_) | refine x_eqlB ?_ | refine x_eqlST ?_ | refine x_eqlSF ?_ | refine x_eqlS (fun hc => ?_) (fun hc => ?_) | refine x_eqlI ?_ | refine x_eqlN ?_ | refine x_eqlA tb_ok ?_ | refine x_eqlAS tb_ok (fun hc => ?_) (fun hc => ?_))
      | refine x_ret ?_
      | refine x_nor ?_
      | exact x_le)
  rfl
set_option maxRecDepth 100000 in
set_option maxHeartbeats 4000000 in
theorem twice_law {L : List Suffix} {h : List UInt8} : ACallsG Tryd.prog gStr 11 [sufT L, strT h] (.bool true) := by
  have c1 := owner_v (L := L) (h := h)
  rcases own_shape L h with ⟨h1, h2⟩ | ⟨hc, hh, hp, ⟨ha, hpe, ho⟩ | ⟨ha, hpn, ho⟩⟩
  · generalize ownF L h = q at *
    obtain ⟨o, e⟩ := q
    dsimp only [pairT] at c1 h1 h2
    subst h2
    refine funG2 tb_ok Tryd.func11 rfl Tryd.ntmps11 Tryd.results11 rfl fun N => ?_
    repeat' (first
        | with_reducible first | refine awp_seq ?_ | refine awp_region ?_ | refine awp_draw mixed ?_ | refine then_n ?_ | refine awp_skip ?_ | refine awp_block ?_ | refine awp_exit ?_ | refine awp_ret ?_ | refine awp_label ?_ | refine then_exit ?_ | refine then_ret ?_ | refine blk_n ?_ | refine blk_ret ?_ | refine blk_exit ?_ | refine blk_other rfl ?_ | refine then_k ?_
        | refine awp_true rfl ?_
        | refine awp_false rfl ?_
        | refine awp_split rfl (fun hb => ?_) (fun hb => ?_)
        | (refine isR ?_; first | refine x_far [] tb_ok rfl ?_ | refine r_nil ?_ | refine r_nild (by kernel_rfl) ?_ | refine x_call (c1 _) ?_ | refine x_call (c1) ?_ | refine x_call (begun_v _) ?_ | refine x_call (begun_v) ?_ | refine x_addE ?_ | refine x_add ?_ | refine x_subE ?_ | refine x_sub ?_ | refine x_cat ?_ | refine x_lenF tb_ok ?_ | refine x_lenO tb_ok ?_ | refine x_lenN tb_ok ?_ | refine x_lenS ?_ | refine x_gtrT ?_ | refine x_gtrF ?_ | refine x_gtr (fun hc => ?_) (fun hc => ?_) | refine x_eqlT ?_ | refine x_eqlF ?_ | refine x_eql (fun hc => ?_) (fun hc => ?_) | refine x_neqT ?_ | refine x_neqF ?_ | refine x_neq (fun hc => ?_) (fun hc => ?_) | refine x_eqlB ?_ | refine x_eqlST ?_ | refine x_eqlSF ?_ | refine x_eqlS (fun hc => ?_) (fun hc => ?_) | refine x_eqlI ?_ | refine x_eqlN ?_ | refine x_neqB ?_ | refine x_neqST ?_ | refine x_neqSF ?_ | refine x_neqS (fun hc => ?_) (fun hc => ?_) | refine x_neqI ?_ | refine x_neqN ?_ | refine x_slSf tb_ok ?_ | refine x_slSt tb_ok ?_ | refine x_slSm tb_ok ?_ | refine x_slFf tb_ok ?_ | refine x_slFt tb_ok ?_ | refine x_slFm tb_ok ?_ | refine x_eqlA tb_ok ?_ | refine x_eqlAS tb_ok (fun hc => ?_) (fun hc => ?_) | refine x_neqA tb_ok ?_ | refine x_neqAS tb_ok (fun hc => ?_) (fun hc => ?_))
        | refine x_ret ?_
        | refine x_nor ?_
        | exact x_le)
    rfl
  · have hlen := hh.len
    have c2 := public_v (L := L) (h := h)
    have c3 := isMatch_v (l := h) (m := h) (by omega) (by omega)
    have c4 := isAddress_v (l := h) (by omega)
    rw [ho] at c1
    rw [hp, hpe] at c2
    rw [match_self] at c3
    rw [ha] at c4
    dsimp only [pairT] at c1 c2
    refine funG2 tb_ok Tryd.func11 rfl Tryd.ntmps11 Tryd.results11 rfl fun N => ?_
    repeat' (first
        | with_reducible first | refine awp_seq ?_ | refine awp_region ?_ | refine awp_draw mixed ?_ | refine then_n ?_ | refine awp_skip ?_ | refine awp_block ?_ | refine awp_exit ?_ | refine awp_ret ?_ | refine awp_label ?_ | refine then_exit ?_ | refine then_ret ?_ | refine blk_n ?_ | refine blk_ret ?_ | refine blk_exit ?_ | refine blk_other rfl ?_ | refine then_k ?_
        | refine awp_true rfl ?_
        | refine awp_false rfl ?_
        | refine awp_split rfl (fun hb => ?_) (fun hb => ?_)
        | (refine isR ?_; first | refine x_far [] tb_ok rfl ?_ | refine r_nil ?_ | refine r_nild (by kernel_rfl) ?_ | refine x_call (c1 _) ?_ | refine x_call (c1) ?_ | refine x_call (begun_v _) ?_ | refine x_call (begun_v) ?_ | refine x_call (c2 _) ?_ | refine x_call (c2) ?_ | refine x_call (c3 _) ?_ | refine x_call (c3) ?_ | refine x_call (c4 _) ?_ | refine x_call (c4) ?_ | refine x_addE ?_ | refine x_add ?_ | refine x_subE ?_ | refine x_sub ?_ | refine x_cat ?_ | refine x_lenF tb_ok ?_ | refine x_lenO tb_ok ?_ | refine x_lenN tb_ok ?_ | refine x_lenS ?_ | refine x_gtrT ?_ | refine x_gtrF ?_ | refine x_gtr (fun hc => ?_) (fun hc => ?_) | refine x_eqlT ?_ | refine x_eqlF ?_ | refine x_eql (fun hc => ?_) (fun hc => ?_) | refine x_neqT ?_ | refine x_neqF ?_ | refine x_neq (fun hc => ?_) (fun hc => ?_) | refine x_eqlB ?_ | refine x_eqlST ?_ | refine x_eqlSF ?_ | refine x_eqlS (fun hc => ?_) (fun hc => ?_) | refine x_eqlI ?_ | refine x_eqlN ?_ | refine x_neqB ?_ | refine x_neqST ?_ | refine x_neqSF ?_ | refine x_neqS (fun hc => ?_) (fun hc => ?_) | refine x_neqI ?_ | refine x_neqN ?_ | refine x_slSf tb_ok ?_ | refine x_slSt tb_ok ?_ | refine x_slSm tb_ok ?_ | refine x_slFf tb_ok ?_ | refine x_slFt tb_ok ?_ | refine x_slFm tb_ok ?_ | refine x_eqlA tb_ok ?_ | refine x_eqlAS tb_ok (fun hc => ?_) (fun hc => ?_) | refine x_neqA tb_ok ?_ | refine x_neqAS tb_ok (fun hc => ?_) (fun hc => ?_))
        | refine x_ret ?_
        | refine x_nor ?_
        | exact x_le)
    rfl
  · have hlen := hh.len
    obtain ⟨h1, h2, a, h3, h4⟩ := own_twice hc hh ha hpn
    have c2 := public_v (L := L) (h := h)
    have c5 := owner_v (L := L) (h := owner L h)
    have hol : (owner L h).length ≤ h.length := by
      rcases (match_iff h (owner L h)).1 h2 with e | ⟨_, x, e⟩
      · rw [← e]; exact Nat.le_refl _
      · have := congrArg List.length e
        simp at this; omega
    have c3 := isMatch_v (l := h) (m := owner L h) (by omega) (by omega)
    have c4 := isAddress_v (l := h) (by omega)
    have c6 := placeOf_v (c := 46) (l := owner L h)
    have hpl : posB 46 (owner L h) = a.length := by rw [h3]; exact index_at a _ 46 h4
    rw [hpl] at c6
    rw [ho] at c1
    rw [hp] at c2
    rw [h2] at c3
    rw [ha] at c4
    rw [h1] at c5
    dsimp only [pairT] at c1 c2 c5
    generalize owner L h = o at *
    generalize pubF L h = p at *
    have hl3 : o.length = a.length + p.length + 1 := by rw [h3]; simp; omega
    have hdrop : o.drop ((o.length : Int) - (p.length : Int) - 1).toNat = [46] ++ p := by
      rw [show ((o.length : Int) - (p.length : Int) - 1).toNat = a.length by omega, h3]
      simp
    clear h3
    refine funG2 tb_ok Tryd.func11 rfl Tryd.ntmps11 Tryd.results11 rfl fun N => ?_
    repeat' (first
        | with_reducible first | refine awp_seq ?_ | refine awp_region ?_ | refine awp_draw mixed ?_ | refine then_n ?_ | refine awp_skip ?_ | refine awp_block ?_ | refine awp_exit ?_ | refine awp_ret ?_ | refine awp_label ?_ | refine then_exit ?_ | refine then_ret ?_ | refine blk_n ?_ | refine blk_ret ?_ | refine blk_exit ?_ | refine blk_other rfl ?_ | refine then_k ?_
        | refine awp_true rfl ?_
        | refine awp_false rfl ?_
        | refine awp_split rfl (fun hb => ?_) (fun hb => ?_)
        | (refine isR ?_; first | refine x_far [] tb_ok rfl ?_ | refine r_nil ?_ | refine r_nild (by kernel_rfl) ?_ | refine x_call (c1 _) ?_ | refine x_call (c1) ?_ | refine x_call (begun_v _) ?_ | refine x_call (begun_v) ?_ | refine x_call (c2 _) ?_ | refine x_call (c2) ?_ | refine x_call (c5 _) ?_ | refine x_call (c5) ?_ | refine x_call (c3 _) ?_ | refine x_call (c3) ?_ | refine x_call (c4 _) ?_ | refine x_call (c4) ?_ | refine x_call (c6 _) ?_ | refine x_call (c6) ?_ | refine x_addE ?_ | refine x_add ?_ | refine x_subE ?_ | refine x_sub ?_ | refine x_cat ?_ | refine x_lenF tb_ok ?_ | refine x_lenO tb_ok ?_ | refine x_lenN tb_ok ?_ | refine x_lenS ?_ | refine x_gtrT ?_ | refine x_gtrF ?_ | refine x_gtr (fun hc => ?_) (fun hc => ?_) | refine x_eqlT ?_ | refine x_eqlF ?_ | refine x_eql (fun hc => ?_) (fun hc => ?_) | refine x_neqT ?_ | refine x_neqF ?_ | refine x_neq (fun hc => ?_) (fun hc => ?_) | refine x_eqlB ?_ | refine x_eqlST ?_ | refine x_eqlSF ?_ | refine x_eqlS (fun hc => ?_) (fun hc => ?_) | refine x_eqlI ?_ | refine x_eqlN ?_ | refine x_neqB ?_ | refine x_neqST ?_ | refine x_neqSF ?_ | refine x_neqS (fun hc => ?_) (fun hc => ?_) | refine x_neqI ?_ | refine x_neqN ?_ | refine x_slSf tb_ok ?_ | refine x_slSt tb_ok ?_ | refine x_slSm tb_ok ?_ | refine x_slFf tb_ok ?_ | refine x_slFt tb_ok ?_ | refine x_slFm tb_ok ?_ | refine x_eqlA tb_ok ?_ | refine x_eqlAS tb_ok (fun hc => ?_) (fun hc => ?_) | refine x_neqA tb_ok ?_ | refine x_neqAS tb_ok (fun hc => ?_) (fun hc => ?_))
        | refine x_ret ?_
        | refine x_nor ?_
        | exact x_le)
    rfl
set_option maxRecDepth 100000 in
set_option maxHeartbeats 4000000 in
theorem same_law {L : List Suffix} {h g : List UInt8} : ACallsG Tryd.prog gStr 12 [sufT L, strT h, strT g] (.bool true) := by
  have c1 := owner_v (L := L) (h := h)
  have c2 := owner_v (L := L) (h := g)
  have c3 := public_v (L := L) (h := h)
  have c4 := public_v (L := L) (h := g)
  rcases own_shape L h with ⟨h1, h2⟩ | ⟨hc, hh, hp, hcase⟩
  · generalize ownF L h = q at *
    generalize ownF L g = r at *
    generalize pubNo L h = s at *
    generalize pubNo L g = t at *
    refine funG3 tb_ok Tryd.func12 rfl Tryd.ntmps12 Tryd.results12 rfl fun N => ?_
    repeat' (first
        | with_reducible first | refine awp_seq ?_ | refine awp_region ?_ | refine awp_draw mixed ?_ | refine then_n ?_ | refine awp_skip ?_ | refine awp_block ?_ | refine awp_exit ?_ | refine awp_ret ?_ | refine awp_label ?_ | refine then_exit ?_ | refine then_ret ?_ | refine blk_n ?_ | refine blk_ret ?_ | refine blk_exit ?_ | refine blk_other rfl ?_ | refine then_k ?_
        | refine awp_true rfl ?_
        | refine awp_false rfl ?_
        | refine awp_split rfl (fun hb => ?_) (fun hb => ?_)
        | (refine isR ?_; first | refine x_far [] tb_ok rfl ?_ | refine r_nil ?_ | refine r_nild (by kernel_rfl) ?_ | refine x_call (begun_v _) ?_ | refine x_call (begun_v) ?_ | refine x_call (c1 _) ?_ | refine x_call (c1) ?_ | refine x_call (c2 _) ?_ | refine x_call (c2) ?_ | refine x_call (c3 _) ?_ | refine x_call (c3) ?_ | refine x_call (c4 _) ?_ | refine x_call (c4) ?_ | refine x_eqlT ?_ | refine x_eqlF ?_ | refine x_eql (fun hc => ?_) (fun hc => ?_) | refine x_neqT ?_ | refine x_neqF ?_ | refine x_neq (fun hc => ?_) (fun hc => ?_) | refine x_eqlB ?_ | refine x_eqlST ?_ | refine x_eqlSF ?_ | refine x_eqlS (fun hc => ?_) (fun hc => ?_) | refine x_eqlI ?_ | refine x_eqlN ?_ | refine x_neqB ?_ | refine x_neqST ?_ | refine x_neqSF ?_ | refine x_neqS (fun hc => ?_) (fun hc => ?_) | refine x_neqI ?_ | refine x_neqN ?_ | refine x_eqlA tb_ok ?_ | refine x_eqlAS tb_ok (fun hc => ?_) (fun hc => ?_) | refine x_neqA tb_ok ?_ | refine x_neqAS tb_ok (fun hc => ?_) (fun hc => ?_))
        | refine x_ret ?_
        | refine x_nor ?_
        | exact x_le)
    rfl
  · rcases own_shape L g with ⟨g1, g2⟩ | ⟨_, gh, gp, gcase⟩
    · have he : (ownF L h).2 = 0 := by rcases hcase with ⟨_, _, e⟩ | ⟨_, _, e⟩ <;> rw [e]
      generalize ownF L h = q at *
      generalize ownF L g = r at *
      generalize pubNo L h = s at *
      generalize pubNo L g = t at *
      refine funG3 tb_ok Tryd.func12 rfl Tryd.ntmps12 Tryd.results12 rfl fun N => ?_
      repeat' (first
          | with_reducible first | refine awp_seq ?_ | refine awp_region ?_ | refine awp_draw mixed ?_ | refine then_n ?_ | refine awp_skip ?_ | refine awp_block ?_ | refine awp_exit ?_ | refine awp_ret ?_ | refine awp_label ?_ | refine then_exit ?_ | refine then_ret ?_ | refine blk_n ?_ | refine blk_ret ?_ | refine blk_exit ?_ | refine blk_other rfl ?_ | refine then_k ?_
          | refine awp_true rfl ?_
          | refine awp_false rfl ?_
          | refine awp_split rfl (fun hb => ?_) (fun hb => ?_)
          | (refine isR ?_; first | refine x_far [] tb_ok rfl ?_ | refine r_nil ?_ | refine r_nild (by kernel_rfl) ?_ | refine x_call (begun_v _) ?_ | refine x_call (begun_v) ?_ | refine x_call (c1 _) ?_ | refine x_call (c1) ?_ | refine x_call (c2 _) ?_ | refine x_call (c2) ?_ | refine x_call (c3 _) ?_ | refine x_call (c3) ?_ | refine x_call (c4 _) ?_ | refine x_call (c4) ?_ | refine x_eqlT ?_ | refine x_eqlF ?_ | refine x_eql (fun hc => ?_) (fun hc => ?_) | refine x_neqT ?_ | refine x_neqF ?_ | refine x_neq (fun hc => ?_) (fun hc => ?_) | refine x_eqlB ?_ | refine x_eqlST ?_ | refine x_eqlSF ?_ | refine x_eqlS (fun hc => ?_) (fun hc => ?_) | refine x_eqlI ?_ | refine x_eqlN ?_ | refine x_neqB ?_ | refine x_neqST ?_ | refine x_neqSF ?_ | refine x_neqS (fun hc => ?_) (fun hc => ?_) | refine x_neqI ?_ | refine x_neqN ?_ | refine x_eqlA tb_ok ?_ | refine x_eqlAS tb_ok (fun hc => ?_) (fun hc => ?_) | refine x_neqA tb_ok ?_ | refine x_neqAS tb_ok (fun hc => ?_) (fun hc => ?_))
          | refine x_ret ?_
          | refine x_nor ?_
          | exact x_le)
      rfl
    · have hhl := hh.len
      have hgl := gh.len
      have c5 := isMatch_v (l := h) (m := g) (by omega) (by omega)
      have c6 := isAddress_v (l := g) (by omega)
      have c7 := isAddress_v (l := h) (by omega)
      rw [hp] at c3
      rw [gp] at c4
      have key : matchF h g = true → pubF L h = pubF L g → (address g = true ∧ address h = false) ∨ (ownF L h).1 = (ownF L g).1 := by
        intro hm he
        rcases hcase with ⟨ha, hpe, ho⟩ | ⟨ha, hpn, ho⟩
        · have := match_address h g ha hm
          subst this; exact .inr rfl
        · rcases gcase with ⟨ga, _, _⟩ | ⟨ga, gpn, go⟩
          · exact .inl ⟨ga, ha⟩
          · rw [ho, go]
            exact .inr (own_same hc hh ha ga hpn gpn he hm)
      have e1 : (ownF L h).2 = 0 := by rcases hcase with ⟨_, _, e⟩ | ⟨_, _, e⟩ <;> rw [e]
      have e2 : (ownF L g).2 = 0 := by rcases gcase with ⟨_, _, e⟩ | ⟨_, _, e⟩ <;> rw [e]
      generalize ownF L h = q at *
      generalize ownF L g = r at *
      obtain ⟨q1, q2⟩ := q
      obtain ⟨r1, r2⟩ := r
      dsimp only at e1 e2 key
      subst e1 e2
      dsimp only [pairT] at c1 c2 c3 c4
      generalize pubF L h = x at *
      generalize pubF L g = y at *
      by_cases hxy : x = y
      · cases hm : matchF h g with
        | false =>
          rw [hm] at c5
          refine funG3 tb_ok Tryd.func12 rfl Tryd.ntmps12 Tryd.results12 rfl fun N => ?_
          repeat' (first
              | with_reducible first | refine awp_seq ?_ | refine awp_region ?_ | refine awp_draw mixed ?_ | refine then_n ?_ | refine awp_skip ?_ | refine awp_block ?_ | refine awp_exit ?_ | refine awp_ret ?_ | refine awp_label ?_ | refine then_exit ?_ | refine then_ret ?_ | refine blk_n ?_ | refine blk_ret ?_ | refine blk_exit ?_ | refine blk_other rfl ?_ | refine then_k ?_
              | refine awp_true rfl ?_
              | refine awp_false rfl ?_
              | refine awp_split rfl (fun hb => ?_) (fun hb => ?_)
              | (refine isR ?_; first | refine x_far [] tb_ok rfl ?_ | refine r_nil ?_ | refine r_nild (by kernel_rfl) ?_ | refine x_call (begun_v _) ?_ | refine x_call (begun_v) ?_ | refine x_call (c1 _) ?_ | refine x_call (c1) ?_ | refine x_call (c2 _) ?_ | refine x_call (c2) ?_ | refine x_call (c3 _) ?_ | refine x_call (c3) ?_ | refine x_call (c4 _) ?_ | refine x_call (c4) ?_ | refine x_call (c5 _) ?_ | refine x_call (c5) ?_ | refine x_eqlT ?_ | refine x_eqlF ?_ | refine x_eql (fun hc => ?_) (fun hc => ?_) | refine x_neqT ?_ | refine x_neqF ?_ | refine x_neq (fun hc => ?_) (fun hc => ?_) | refine x_eqlB ?_ | refine x_eqlST ?_ | refine x_eqlSF ?_ | refine x_eqlS (fun hc => ?_) (fun hc => ?_) | refine x_eqlI ?_ | refine x_eqlN ?_ | refine x_neqB ?_ | refine x_neqST ?_ | refine x_neqSF ?_ | refine x_neqS (fun hc => ?_) (fun hc => ?_) | refine x_neqI ?_ | refine x_neqN ?_ | refine x_eqlA tb_ok ?_ | refine x_eqlAS tb_ok (fun hc => ?_) (fun hc => ?_) | refine x_neqA tb_ok ?_ | refine x_neqAS tb_ok (fun hc => ?_) (fun hc => ?_))
              | refine x_ret ?_
              | refine x_nor ?_
              | exact x_le)
          rfl
        | true =>
          rw [hm] at c5
          rcases key hm hxy with ⟨k1, k2⟩ | k1
          · rw [k1] at c6
            rw [k2] at c7
            refine funG3 tb_ok Tryd.func12 rfl Tryd.ntmps12 Tryd.results12 rfl fun N => ?_
            repeat' (first
                | with_reducible first | refine awp_seq ?_ | refine awp_region ?_ | refine awp_draw mixed ?_ | refine then_n ?_ | refine awp_skip ?_ | refine awp_block ?_ | refine awp_exit ?_ | refine awp_ret ?_ | refine awp_label ?_ | refine then_exit ?_ | refine then_ret ?_ | refine blk_n ?_ | refine blk_ret ?_ | refine blk_exit ?_ | refine blk_other rfl ?_ | refine then_k ?_
                | refine awp_true rfl ?_
                | refine awp_false rfl ?_
                | refine awp_split rfl (fun hb => ?_) (fun hb => ?_)
                | (refine isR ?_; first | refine x_far [] tb_ok rfl ?_ | refine r_nil ?_ | refine r_nild (by kernel_rfl) ?_ | refine x_call (begun_v _) ?_ | refine x_call (begun_v) ?_ | refine x_call (c1 _) ?_ | refine x_call (c1) ?_ | refine x_call (c2 _) ?_ | refine x_call (c2) ?_ | refine x_call (c3 _) ?_ | refine x_call (c3) ?_ | refine x_call (c4 _) ?_ | refine x_call (c4) ?_ | refine x_call (c5 _) ?_ | refine x_call (c5) ?_ | refine x_call (c6 _) ?_ | refine x_call (c6) ?_ | refine x_call (c7 _) ?_ | refine x_call (c7) ?_ | refine x_eqlT ?_ | refine x_eqlF ?_ | refine x_eql (fun hc => ?_) (fun hc => ?_) | refine x_neqT ?_ | refine x_neqF ?_ | refine x_neq (fun hc => ?_) (fun hc => ?_) | refine x_eqlB ?_ | refine x_eqlST ?_ | refine x_eqlSF ?_ | refine x_eqlS (fun hc => ?_) (fun hc => ?_) | refine x_eqlI ?_ | refine x_eqlN ?_ | refine x_neqB ?_ | refine x_neqST ?_ | refine x_neqSF ?_ | refine x_neqS (fun hc => ?_) (fun hc => ?_) | refine x_neqI ?_ | refine x_neqN ?_ | refine x_eqlA tb_ok ?_ | refine x_eqlAS tb_ok (fun hc => ?_) (fun hc => ?_) | refine x_neqA tb_ok ?_ | refine x_neqAS tb_ok (fun hc => ?_) (fun hc => ?_))
                | refine x_ret ?_
                | refine x_nor ?_
                | exact x_le)
            rfl
          · generalize address g = u at *
            generalize address h = v at *
            refine funG3 tb_ok Tryd.func12 rfl Tryd.ntmps12 Tryd.results12 rfl fun N => ?_
            repeat' (first
                | with_reducible first | refine awp_seq ?_ | refine awp_region ?_ | refine awp_draw mixed ?_ | refine then_n ?_ | refine awp_skip ?_ | refine awp_block ?_ | refine awp_exit ?_ | refine awp_ret ?_ | refine awp_label ?_ | refine then_exit ?_ | refine then_ret ?_ | refine blk_n ?_ | refine blk_ret ?_ | refine blk_exit ?_ | refine blk_other rfl ?_ | refine then_k ?_
                | refine awp_true rfl ?_
                | refine awp_false rfl ?_
                | refine awp_split rfl (fun hb => ?_) (fun hb => ?_)
                | (refine isR ?_; first | refine x_far [] tb_ok rfl ?_ | refine r_nil ?_ | refine r_nild (by kernel_rfl) ?_ | refine x_call (begun_v _) ?_ | refine x_call (begun_v) ?_ | refine x_call (c1 _) ?_ | refine x_call (c1) ?_ | refine x_call (c2 _) ?_ | refine x_call (c2) ?_ | refine x_call (c3 _) ?_ | refine x_call (c3) ?_ | refine x_call (c4 _) ?_ | refine x_call (c4) ?_ | refine x_call (c5 _) ?_ | refine x_call (c5) ?_ | refine x_callS (c6 _) (fun hb => ?_) (fun hb => ?_) | refine x_callS (c6) (fun hb => ?_) (fun hb => ?_) | refine x_callS (c7 _) (fun hb => ?_) (fun hb => ?_) | refine x_callS (c7) (fun hb => ?_) (fun hb => ?_) | refine x_eqlT ?_ | refine x_eqlF ?_ | refine x_eql (fun hc => ?_) (fun hc => ?_) | refine x_neqT ?_ | refine x_neqF ?_ | refine x_neq (fun hc => ?_) (fun hc => ?_) | refine x_eqlB ?_ | refine x_eqlST ?_ | refine x_eqlSF ?_ | refine x_eqlS (fun hc => ?_) (fun hc => ?_) | refine x_eqlI ?_ | refine x_eqlN ?_ | refine x_neqB ?_ | refine x_neqST ?_ | refine x_neqSF ?_ | refine x_neqS (fun hc => ?_) (fun hc => ?_) | refine x_neqI ?_ | refine x_neqN ?_ | refine x_eqlA tb_ok ?_ | refine x_eqlAS tb_ok (fun hc => ?_) (fun hc => ?_) | refine x_neqA tb_ok ?_ | refine x_neqAS tb_ok (fun hc => ?_) (fun hc => ?_))
                | refine x_ret ?_
                | refine x_nor ?_
                | exact x_le)
            all_goals rfl
      · skip
        refine funG3 tb_ok Tryd.func12 rfl Tryd.ntmps12 Tryd.results12 rfl fun N => ?_
        repeat' (first
            | with_reducible first | refine awp_seq ?_ | refine awp_region ?_ | refine awp_draw mixed ?_ | refine then_n ?_ | refine awp_skip ?_ | refine awp_block ?_ | refine awp_exit ?_ | refine awp_ret ?_ | refine awp_label ?_ | refine then_exit ?_ | refine then_ret ?_ | refine blk_n ?_ | refine blk_ret ?_ | refine blk_exit ?_ | refine blk_other rfl ?_ | refine then_k ?_
            | refine awp_true rfl ?_
            | refine awp_false rfl ?_
            | refine awp_split rfl (fun hb => ?_) (fun hb => ?_)
            | (refine isR ?_; first | refine x_far [] tb_ok rfl ?_ | refine r_nil ?_ | refine r_nild (by kernel_rfl) ?_ | refine x_call (begun_v _) ?_ | refine x_call (begun_v) ?_ | refine x_call (c1 _) ?_ | refine x_call (c1) ?_ | refine x_call (c2 _) ?_ | refine x_call (c2) ?_ | refine x_call (c3 _) ?_ | refine x_call (c3) ?_ | refine x_call (c4 _) ?_ | refine x_call (c4) ?_ | refine x_eqlT ?_ | refine x_eqlF ?_ | refine x_eql (fun hc => ?_) (fun hc => ?_) | refine x_neqT ?_ | refine x_neqF ?_ | refine x_neq (fun hc => ?_) (fun hc => ?_) | refine x_eqlB ?_ | refine x_eqlST ?_ | refine x_eqlSF ?_ | refine x_eqlS (fun hc => ?_) (fun hc => ?_) | refine x_eqlI ?_ | refine x_eqlN ?_ | refine x_neqB ?_ | refine x_neqST ?_ | refine x_neqSF ?_ | refine x_neqS (fun hc => ?_) (fun hc => ?_) | refine x_neqI ?_ | refine x_neqN ?_ | refine x_eqlA tb_ok ?_ | refine x_eqlAS tb_ok (fun hc => ?_) (fun hc => ?_) | refine x_neqA tb_ok ?_ | refine x_neqAS tb_ok (fun hc => ?_) (fun hc => ?_))
            | refine x_ret ?_
            | refine x_nor ?_
            | exact x_le)
        rfl
end Go.Proofs.YtkgdkpiacencjaaDoor.SufG
