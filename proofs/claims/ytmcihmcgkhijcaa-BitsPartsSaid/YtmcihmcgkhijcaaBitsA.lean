/- The walk of the law BitsParts. -/
import Derived.Test.YtmcihmcgkhijcaaBitsZ
import Derived.Lib.SmallJoins
namespace Go.Proofs.Ytmcihmcgkhijcaa.BitsA
open Go.RowKit Mem BitsP BitsS BitsT BitsW BitsR OneB BitsU BitsV BitsX BitsQ BitsY BitsZ

theorem elemFld : Elem Try.prog 39 50 2 16 := Elem.mk (z := .agg #[.int .u64 0, .int .i64 0]) Try.underlying39 (by kernel_rfl) rfl (by decide)
theorem fld_one : ∀ x, ∀ u ∈ fld x, u.oneCell' = true := fun x u hu => by
  simp only [fld, List.mem_cons, List.not_mem_nil, or_false] at hu
  rcases hu with rfl | rfl <;> rfl
theorem own_mk {w : World} {base base' : Nat} {v : Value} {L : List (Nat × Int)} {i k r x1 x2 : Nat} (hb : base' ≤ base) (h : w.ownsRow base 50 2 v (0 + i + 2) (([] ++ (L.take i).flatMap fld) ++ [.int .u64 (x1 : Int), .int .i64 (k : Int), .int .u64 (x2 : Int), .int .i64 (r : Int)])) :
    w.ownsRow base' 50 2 v (i + 2) ((L.take i ++ [(x1, (k : Int)), (x2, (r : Int))]).flatMap fld) := by
  have h1 := Joins.ownsRow_le h hb
  simpa [fld] using h1
theorem parts_small {L : List (Nat × Int)} (hb : ∀ f ∈ L, f.1 < 18446744073709551616) (i : Nat) {x1 x2 : Nat} {k r : Int} (h1 : x1 < 18446744073709551616) (h2 : x2 < 18446744073709551616) : ∀ f ∈ L.take i ++ [(x1, k), (x2, r)] ++ L.drop (i + 1), f.1 < 18446744073709551616 := fun f hf => by
  simp only [List.mem_append, List.mem_cons, List.not_mem_nil, or_false] at hf
  rcases hf with (hf | rfl | rfl) | hf
  · exact hb f (List.mem_of_mem_take hf)
  · exact h1
  · exact h2
  · exact hb f (List.mem_of_mem_drop hf)
theorem parts_len (L : List (Nat × Int)) (i : Nat) (f g : Nat × Int) (hi : i < L.length) : (L.take i ++ [f, g] ++ L.drop (i + 1)).length = i + 2 + (L.length - (i + 1)) := by
  simp; omega
set_option maxRecDepth 100000 in
set_option maxHeartbeats 4000000 in
theorem bitsParts_out (A : Option Addr) (c : Nat) (L : List (Nat × Int)) (i k : Int) (w : World) (H : HF w A L) (he : (writeF L).2 = 0) (h : decide (i < 0) = true ∨ (decide (i < 0) = false ∧ decide ((L.length : Int) ≤ i) = true) ∨ (decide (i < 0) = false ∧ decide ((L.length : Int) ≤ i) = false ∧ decide (k < 1) = true)) :
    Calls Try.prog 12 #[.slice A L.length c, .int .i64 i, .int .i64 k] w (Gives (.bool true) w) := by
  have C1 := write_any A c L H.b w H.r H.n
  unfold WPost at C1
  rw [he] at C1
  have C1' := Lib.hid C1
  clear C1 he H
  generalize (writeF L).1 = x at C1'
  rcases h with h | ⟨h1, h2⟩ | ⟨h1, h2, h3⟩
  all_goals
    go_enter Try.func12, Try.ntmps12
    go_wp2_with fail
    refine C1'.out.mono ?_
    rintro e w1 ⟨rfl, B1⟩
    go_wp2_with fail
    refine (bitsBegun_any _).mono ?_
    rintro e w2 ⟨rfl, b2⟩
    go_wp2_with fail
    go_ret
    exact ⟨rfl, below_cat B1 b2⟩
set_option maxRecDepth 100000 in
set_option maxHeartbeats 4000000 in
theorem bitsParts_bad (A : Option Addr) (c : Nat) (L : List (Nat × Int)) (i k : Int) (w : World) (H : HF w A L) (he : (writeF L).2 ≠ 0) :
    Calls Try.prog 12 #[.slice A L.length c, .int .i64 i, .int .i64 k] w (Gives (.bool true) w) := by
  have C1 := write_any A c L H.b w H.r H.n
  unfold WPost at C1
  have hne : (((writeF L).2 : Int) != 0) = true := by simp; exact he
  have C1' := Lib.hid C1
  clear C1 he H
  generalize (writeF L).2 = er at C1' hne
  generalize (writeF L).1 = x at C1'
  go_enter Try.func12, Try.ntmps12
  go_wp2_with fail
  refine C1'.out.mono ?_
  rintro e w1 ⟨rfl, B1⟩
  go_wp2_with fail
  refine (bitsBegun_any _).mono ?_
  rintro e w2 ⟨rfl, b2⟩
  go_wp2_with fail
  go_ret
  exact ⟨rfl, below_cat B1 b2⟩
theorem mask_of (n r : Nat) (hn : n < 18446744073709551616) (hr : r ≤ 63) : bits .and .u64 (n : Int) ((2 ^ r - 1 : Nat) : Int) = ((n % 2 ^ r : Nat) : Int) := by
  have h : 2 ^ r ≤ 2 ^ 63 := Nat.pow_le_pow_right (by omega) hr
  rw [u64_and_nat n (2 ^ r - 1) hn (by omega), Nat.and_two_pow_sub_one_eq_mod]
theorem shl_of (r : Nat) (hr : r ≤ 63) : IntKind.u64.wrap (2 ^ r - 1 : Int) = ((2 ^ r - 1 : Nat) : Int) ∧ IntKind.u64.wrap (2 ^ r : Int) = (2 ^ r : Int) := by
  have h : 2 ^ r ≤ 2 ^ 63 := Nat.pow_le_pow_right (by omega) hr
  have h0 : 0 < 2 ^ r := Nat.two_pow_pos r
  have e : (2 ^ r : Int) = ((2 ^ r : Nat) : Int) := by simp
  rw [e]
  generalize 2 ^ r = q at h h0
  rw [IntKind.wrap_u64, IntKind.wrap_u64]
  omega
set_option maxRecDepth 100000 in
set_option maxHeartbeats 8000000 in
theorem bitsParts_in (A : Option Addr) (c : Nat) (L : List (Nat × Int)) (hcap : L.length ≤ c) (i k : Nat) (w : World) (H : HF w A L) (he : (writeF L).2 = 0) (hi : i < L.length) (hk : 1 ≤ k) :
    Calls Try.prog 12 #[.slice A L.length c, .int .i64 i, .int .i64 k] w (Gives (.bool true) w) := by
  obtain ⟨hlen, hck, hx⟩ := writeF_ok he
  have C1 := write_any A c L H.b w H.r H.n
  unfold WPost at C1
  rw [he] at C1
  have C1' := Lib.hid C1
  obtain ⟨b, o, rfl, hbB, hcs⟩ := Row.elems fld_len H.r (by omega) (by omega)
  have hc0 := hcs i hi 0 _ rfl
  have hc1 := hcs i hi 1 _ rfl
  simp only [Nat.add_zero] at hc0
  have hsplit : L = L.take i ++ L[i] :: L.drop (i + 1) := by rw [← List.drop_eq_getElem_cons hi, List.take_append_drop]
  have hn64 := H.b L[i] (List.getElem_mem hi)
  have hall := hck
  rw [hsplit] at hall
  obtain ⟨_, hwok, hlt2, _⟩ := chk_mid hall
  have HSP := Lib.hid hsplit; have HALL := Lib.hid hall
  have R := Lib.hid H.r
  have HB := Lib.hid H.b
  clear C1 hall hsplit hcs H hx
  generalize L[i] = f at hc0 hc1 hn64 hwok hlt2 HSP HALL
  obtain ⟨n, wd⟩ := f
  obtain ⟨hw1, hw64⟩ := (wOk_iff _).1 hwok
  obtain ⟨W, rfl⟩ := Int.eq_ofNat_of_zero_le (show 0 ≤ wd by omega)
  have k1 : decide ((k : Int) < 1) = false := by simp; omega
  have i0 : decide ((i : Int) < 0) = false := by simp
  have i1 : decide ((L.length : Int) ≤ (i : Int)) = false := by simp; omega
  have z1 : (0 : Int) ≤ (i : Int) := by omega
  have z2 : (i : Int) < (L.length : Int) := by omega
  clear hwok hlt2
  have HE := Lib.hid he; have HCK := Lib.hid hck
  clear he hck
  by_cases hkw : W ≤ k
  · have k2 : decide ((W : Int) ≤ (k : Int)) = true := by simp; omega
    go_enter Try.func12, Try.ntmps12
    go_wp2_with fail
    refine C1'.out.mono ?_
    rintro e w1 ⟨rfl, B1⟩
    go_wp2_with fail
    refine (bitsBegun_any _).mono ?_
    rintro e w2 ⟨rfl, b2⟩
    have B2 := below_cat B1 b2
    have d0 := (B2.cell (p := ⟨b, o + i * 2, none⟩) hbB).trans hc0
    have d1 := (B2.cell (p := ⟨b, o + i * 2 + 1, none⟩) hbB).trans hc1
    go_wp2_with fail
    go_ret
    exact ⟨rfl, B2⟩
  · have k2 : decide ((W : Int) ≤ (k : Int)) = false := by simp; omega
    by_cases h4 : L.length = 400
    · have hq4 : ((L.length : Int) == 400) = true := by simp [h4]
      clear h4
      go_enter Try.func12, Try.ntmps12
      go_wp2_with fail
      refine C1'.out.mono ?_
      rintro e w1 ⟨rfl, B1⟩
      go_wp2_with fail
      refine (bitsBegun_any _).mono ?_
      rintro e w2 ⟨rfl, b2⟩
      have B2 := below_cat B1 b2
      have d0 := (B2.cell (p := ⟨b, o + i * 2, none⟩) hbB).trans hc0
      have d1 := (B2.cell (p := ⟨b, o + i * 2 + 1, none⟩) hbB).trans hc1
      go_wp2_with fail
      go_ret
      exact ⟨rfl, B2⟩
    · have hq4 : ((L.length : Int) == 400) = false := by simp; omega
      have hl4 : L.length < 400 := by omega
      clear h4
      go_enter Try.func12, Try.ntmps12
      go_wp2_with fail
      refine C1'.out.mono ?_
      rintro e w1 ⟨rfl, B1⟩
      go_wp2_with fail
      refine (bitsBegun_any _).mono ?_
      rintro e w2 ⟨rfl, b2⟩
      have B2 := below_cat B1 b2
      have d0 := (B2.cell (p := ⟨b, o + i * 2, none⟩) hbB).trans hc0
      have d1 := (B2.cell (p := ⟨b, o + i * 2 + 1, none⟩) hbB).trans hc1
      go_wp2_with fail
      have hwk : IntKind.i64.wrap ((W : Int) - (k : Int)) = ((W - k : Nat) : Int) := by rw [IntWalk.i64_in _ (by omega)]; omega
      have hr63 : W - k ≤ 63 := by omega
      have hr0 : 0 < W - k := by omega
      have hsum : W = k + (W - k) := by omega
      have HSUM := Lib.hid hsum
      clear hsum
      have hwp := write_parts (L.take i) (L.drop (i + 1)) n W k (by rw [← HSP.out]; exact hl4) (by rw [← HSP.out]; exact HCK.out) hk (by omega)
      rw [← HSP.out] at hwp
      generalize W - k = r at hwk hr63 hr0 HSUM hwp
      obtain ⟨hs1, hs2⟩ := shl_of r hr63
      have hmk := mask_of n r hn64 hr63
      have hw3 : i ≤ c := by omega
      generalize hq : 2 ^ r - 1 = q at hmk hs1
      have hx2 : n % 2 ^ r < 18446744073709551616 := Nat.lt_of_le_of_lt (Nat.mod_le _ _) hn64
      generalize n % 2 ^ r = x2 at hmk hwp hx2
      have hsh : (n : Int) / 2 ^ r = ((n / 2 ^ r : Nat) : Int) := by simp
      have hx1 : n / 2 ^ r ≤ n := Nat.div_le_self _ _
      generalize n / 2 ^ r = x1 at hsh hx1 hwp
      have HW := Lib.hid hwp
      clear hq hwp
      refine Seq.region_part (S := fun w' => Below w.heap.size w w') [(1, false), (2, false), (3, false), (5, false), (6, false), (7, false), (8, false), (9, false), (10, false), (11, false), (12, false), (13, false), (14, false), (15, false), (16, false), (17, false), (18, false), (19, false), (20, false), (21, false), (22, false), (23, false), (24, false), (25, false), (26, false), (27, false), (28, false), (29, false), (30, false)] #[false, true, true, true, false, true, true, true, true, true, true, true, true, true, true, true, true, true, true, true, true, true, true, true, true, true, true, true, true, true, true, false, false, false] 5
        (by kernel_rfl) (by kernel_rfl) (fun _ _ d _ _ h => by cases d <;> exact h) B2.drew ?_
      simp only [Seq.lay, List.getElem?_cons_zero, List.getElem?_cons_succ]
      repeat (first
        | (refine Seq.seq_read (v := ?_) (by rfl) ?_ ?_
           rotate_left
           · (intro w' hS; have d0 := (hS.cell (p := ⟨b, o + i * 2, none⟩) hbB).trans hc0; have d1 := (hS.cell (p := ⟨b, o + i * 2 + 1, none⟩) hbB).trans hc1; go_simp; with_reducible rfl)
           simp only [Act.put, List.setIfInBounds_toArray, List.set_cons_zero, List.set_cons_succ]))
      refine Seq.seq_nil ?_
      refine Seq.either 0 31 _ _ (by kernel_rfl) rfl rfl (by rfl) (by rfl) (fun K hK => ?_) (fun K hK => ?_)
      · go_simp
        have S1 : Below w2.heap.size w2 (w2.alloc (.cells #[] 50)).drew := ((Below.refl _ w2).alloc (Nat.le_refl _) _).drew
        refine hK _ _ (below_cat B2 S1) ?_
        clear hK K
        refine Seq.either 4 31 _ _ (by kernel_rfl) rfl rfl (by rfl) (by rfl) (fun K hK => ?_) (fun K hK => ?_)
        · refine wp_app elemFld (.tmp 55) (.tmp 58) rfl (w2.heap.size) _ 0 [] rfl (World.ownsRow_lit w2 #[] 0 (Nat.le_refl _) (by decide) rfl) (some ⟨b, o, none⟩) i c ((L.take i).flatMap fld) w.heap.size rfl (by rw [flat_len fld 2 fld_len, List.length_take, Nat.min_eq_left (by omega)]) ((R.out.first fld_len i).below (below_cat B2 S1)) (flat_one fld fld_one _) (fun e => by cases e) (by omega) (by omega) (by simp <;> omega) ?_
          intro v3 w3 o3 g3
          have S3 : Below w2.heap.size w2 w3 := S1.grown g3 S1.size (fun k e => by cases e; exact Nat.le_refl _)
          refine hK _ _ (below_cat B2 S3) ?_
          clear hK K
          refine Seq.on_seq [(31, true), (32, true), (33, false)] (by kernel_rfl) (fun _ _ d _ _ h => by cases d <;> exact h) (below_cat B2 S3) ?_
          simp only [Seq.lay, List.getElem?_cons_zero, List.getElem?_cons_succ]
          refine Seq.seq_do (by rfl) (fun K hK => ?_)
          go_simp
          have S5 := below_new S3 (.cells #[.int .u64 (x1 : Int), .int .i64 (k : Int), .int .u64 (x2 : Int), .int .i64 (r : Int)] 50)
          refine hK _ _ (below_cat B2 S5) ?_
          clear hK K
          refine Seq.seq_do (by rfl) (fun K hK => ?_)
          refine wp_app elemFld (.tmp 59) (.tmp 86) rfl (w2.heap.size) v3 (0 + i) _ rfl (o3.alloc _) (some ⟨w3.heap.size, 0, none⟩) 2 2 [.int .u64 (x1 : Int), .int .i64 (k : Int), .int .u64 (x2 : Int), .int .i64 (r : Int)] (w3.heap.size + 1) rfl rfl (Row.lit w3 _ [.int .u64 (x1 : Int), .int .i64 (k : Int), .int .u64 (x2 : Int), .int .i64 (r : Int)] _ (by omega)) (by simp [Value.oneCell']) (fun e => by cases e) (by omega) (by omega) (by have h1 := S5.size; have h2 := g3.size; simp at h1 h2 ⊢; omega) ?_
          intro v4 w4 o4 g4
          have S4 : Below w2.heap.size w2 w4 := S5.grown g4 S5.size (fun k e => by have := (o3.lt k e).1; omega)
          refine hK _ _ (below_cat B2 S4) ?_
          clear hK K
          refine Seq.seq_read (v := ?_) (by rfl) ?_ ?_
          rotate_left
          · intro w' _; go_simp; with_reducible rfl
          simp only [Act.put, List.setIfInBounds_toArray, List.set_cons_zero, List.set_cons_succ]
          refine Seq.seq_nil ?_
          have HO := Lib.hid (own_mk (base' := w2.heap.size) (by omega) o4)
          clear o4 g4 o3 g3 S3
          by_cases hic : i + 1 = c
          · have hdr : (L.drop (i + 1)).flatMap fld = [] := by rw [List.drop_of_length_le (by omega)]; rfl
            have HD := Lib.hid hdr
            have hic2 : (i : Int) + 1 = (c : Int) := by omega
            clear hdr
            go_wp2_with (first
              | (at_builtin
                 refine app elemFld rfl (.tmp 89) (.tmp 93) rfl w2.heap.size _ (i + 2) _ rfl HO.out (some ⟨b, o, none⟩) 0 _ [] w.heap.size rfl rfl (Row.nil _ _ _) (by simp) (fun e => by cases e) (by omega) (by omega) S4.size ?_
                 intro v5 w5 o5 g5
                 have S5 : Below w2.heap.size w2 w5 := S4.grown g5 S4.size (fun k e => (HO.out.lt k e).1)
                 obtain ⟨A6, c6, rfl, n6, l6, r6⟩ := own_row o5
                 clear o5 g5))
            have CW := write_any A6 c6 (L.take i ++ [(x1, (k : Int)), (x2, (r : Int))] ++ L.drop (i + 1)) (parts_small HB.out i (by omega) (by omega)) w5 (by rw [List.flatMap_append, HD.out]; exact r6) (by simp; omega)
            rw [parts_len L i _ _ hi, show L.length - (i + 1) = 0 from by omega, Nat.add_zero] at CW
            unfold WPost at CW
            rw [HW.out.1, HW.out.2] at CW
            have CW' := Lib.hid CW
            clear CW
            with_reducible refine CW'.out.mono ?_
            rintro e w6 ⟨rfl, b6⟩
            go_wp2_with fail
            go_ret
            exact ⟨rfl, below_cat (below_cat B2 S5) b6⟩
          · have hic2 : (i : Int) + 1 < (c : Int) := by omega
            have hic3 : (i : Int) + 1 ≤ (L.length : Int) := by omega
            go_wp2_with (first
              | (at_builtin
                 refine app elemFld rfl (.tmp 89) (.tmp 93) rfl w2.heap.size _ (i + 2) _ rfl HO.out (some ⟨b, o + (i + 1) * 2, none⟩) _ _ ((L.drop (i + 1)).flatMap fld) w.heap.size rfl (by rw [flat_len fld 2 fld_len, List.length_drop]) ((R.out.behind fld_len (i + 1)).below (below_cat B2 S4)) (flat_one fld fld_one _) (fun e => by cases e) (by omega) (by omega) S4.size ?_
                 intro v5 w5 o5 g5
                 have S5 : Below w2.heap.size w2 w5 := S4.grown g5 S4.size (fun k e => (HO.out.lt k e).1)
                 obtain ⟨A6, c6, rfl, n6, l6, r6⟩ := own_row o5
                 clear o5 g5))
            have CW := write_any A6 c6 (L.take i ++ [(x1, (k : Int)), (x2, (r : Int))] ++ L.drop (i + 1)) (parts_small HB.out i (by omega) (by omega)) w5 (by rw [List.flatMap_append]; exact r6) (by simp; omega)
            rw [parts_len L i _ _ hi] at CW
            unfold WPost at CW
            rw [HW.out.1, HW.out.2] at CW
            have CW' := Lib.hid CW
            clear CW
            with_reducible refine CW'.out.mono ?_
            rintro e w6 ⟨rfl, b6⟩
            go_wp2_with fail
            go_ret
            exact ⟨rfl, below_cat (below_cat B2 S5) b6⟩
        · go_simp
          have S2 : Below w2.heap.size w2 ((w2.alloc (.cells #[] 50)).alloc (.cells #[.int .u64 (x1 : Int), .int .i64 (k : Int), .int .u64 (x2 : Int), .int .i64 (r : Int)] 50)).drew := (((Below.refl _ w2).alloc (Nat.le_refl _) _).alloc (by simp) _).drew
          refine hK _ _ (below_cat B2 S2) ?_
          clear hK K
          refine Seq.on_seq [(4, true), (32, true), (33, false)] (by kernel_rfl) (fun _ _ d _ _ h => by cases d <;> exact h) (below_cat B2 S2) ?_
          simp only [Seq.lay, List.getElem?_cons_zero, List.getElem?_cons_succ]
          refine Seq.seq_do (by rfl) (fun K hK => ?_)
          refine wp_app elemFld (.tmp 55) (.tmp 58) rfl (w2.heap.size) _ 0 [] rfl ((World.ownsRow_lit w2 #[] 0 (Nat.le_refl _) (by decide) rfl).alloc _) (some ⟨b, o, none⟩) i c ((L.take i).flatMap fld) w.heap.size rfl (by rw [flat_len fld 2 fld_len, List.length_take, Nat.min_eq_left (by omega)]) ((R.out.first fld_len i).below (below_cat B2 S2)) (flat_one fld fld_one _) (fun e => by cases e) (by omega) (by omega) (by simp <;> omega) ?_
          intro v3 w3 o3 g3
          have S3 : Below w2.heap.size w2 w3 := S2.grown g3 S2.size (fun k e => by cases e; exact Nat.le_refl _)
          refine hK _ _ (below_cat B2 S3) ?_
          clear hK K
          have hlit : Row ((w2.alloc (.cells #[] 50)).alloc (.cells #[.int .u64 (x1 : Int), .int .i64 (k : Int), .int .u64 (x2 : Int), .int .i64 (r : Int)] 50)) (w2.heap.size + 2) (some ⟨w2.heap.size + 1, 0, none⟩) [.int .u64 (x1 : Int), .int .i64 (k : Int), .int .u64 (x2 : Int), .int .i64 (r : Int)] := by
            have h := Row.lit (w2.alloc (.cells #[] 50)) 50 [.int .u64 (x1 : Int), .int .i64 (k : Int), .int .u64 (x2 : Int), .int .i64 (r : Int)] (w2.heap.size + 2) (by simp)
            simpa using h
          have hrow := Row.grown (w := ((w2.alloc (.cells #[] 50)).alloc (.cells #[.int .u64 (x1 : Int), .int .i64 (k : Int), .int .u64 (x2 : Int), .int .i64 (r : Int)] 50)).drew) hlit (by simp) g3 (fun b o e => by cases e; simp [Act.eval, Value.ownBlock])
          refine Seq.seq_do (by rfl) (fun K hK => ?_)
          refine wp_app elemFld (.tmp 59) (.tmp 86) rfl (w2.heap.size) v3 (0 + i) _ rfl (o3) (some ⟨w2.heap.size + 1, 0, none⟩) 2 2 [.int .u64 (x1 : Int), .int .i64 (k : Int), .int .u64 (x2 : Int), .int .i64 (r : Int)] (w2.heap.size + 2) rfl rfl (hrow) (by simp [Value.oneCell']) (fun e => by cases e) (by omega) (by omega) (by have h1 := S3.size; have h2 := g3.size; simp at h1 h2 ⊢; omega) ?_
          intro v4 w4 o4 g4
          have S4 : Below w2.heap.size w2 w4 := S3.grown g4 S3.size (fun k e => by have := (o3.lt k e).1; omega)
          refine hK _ _ (below_cat B2 S4) ?_
          clear hK K
          refine Seq.seq_read (v := ?_) (by rfl) ?_ ?_
          rotate_left
          · intro w' _; go_simp; with_reducible rfl
          simp only [Act.put, List.setIfInBounds_toArray, List.set_cons_zero, List.set_cons_succ]
          refine Seq.seq_nil ?_
          have HO := Lib.hid (own_mk (base' := w2.heap.size) (by omega) o4)
          clear o4 g4 o3 g3 S3
          by_cases hic : i + 1 = c
          · have hdr : (L.drop (i + 1)).flatMap fld = [] := by rw [List.drop_of_length_le (by omega)]; rfl
            have HD := Lib.hid hdr
            have hic2 : (i : Int) + 1 = (c : Int) := by omega
            clear hdr
            go_wp2_with (first
              | (at_builtin
                 refine app elemFld rfl (.tmp 89) (.tmp 93) rfl w2.heap.size _ (i + 2) _ rfl HO.out (some ⟨b, o, none⟩) 0 _ [] w.heap.size rfl rfl (Row.nil _ _ _) (by simp) (fun e => by cases e) (by omega) (by omega) S4.size ?_
                 intro v5 w5 o5 g5
                 have S5 : Below w2.heap.size w2 w5 := S4.grown g5 S4.size (fun k e => (HO.out.lt k e).1)
                 obtain ⟨A6, c6, rfl, n6, l6, r6⟩ := own_row o5
                 clear o5 g5))
            have CW := write_any A6 c6 (L.take i ++ [(x1, (k : Int)), (x2, (r : Int))] ++ L.drop (i + 1)) (parts_small HB.out i (by omega) (by omega)) w5 (by rw [List.flatMap_append, HD.out]; exact r6) (by simp; omega)
            rw [parts_len L i _ _ hi, show L.length - (i + 1) = 0 from by omega, Nat.add_zero] at CW
            unfold WPost at CW
            rw [HW.out.1, HW.out.2] at CW
            have CW' := Lib.hid CW
            clear CW
            with_reducible refine CW'.out.mono ?_
            rintro e w6 ⟨rfl, b6⟩
            go_wp2_with fail
            go_ret
            exact ⟨rfl, below_cat (below_cat B2 S5) b6⟩
          · have hic2 : (i : Int) + 1 < (c : Int) := by omega
            have hic3 : (i : Int) + 1 ≤ (L.length : Int) := by omega
            go_wp2_with (first
              | (at_builtin
                 refine app elemFld rfl (.tmp 89) (.tmp 93) rfl w2.heap.size _ (i + 2) _ rfl HO.out (some ⟨b, o + (i + 1) * 2, none⟩) _ _ ((L.drop (i + 1)).flatMap fld) w.heap.size rfl (by rw [flat_len fld 2 fld_len, List.length_drop]) ((R.out.behind fld_len (i + 1)).below (below_cat B2 S4)) (flat_one fld fld_one _) (fun e => by cases e) (by omega) (by omega) S4.size ?_
                 intro v5 w5 o5 g5
                 have S5 : Below w2.heap.size w2 w5 := S4.grown g5 S4.size (fun k e => (HO.out.lt k e).1)
                 obtain ⟨A6, c6, rfl, n6, l6, r6⟩ := own_row o5
                 clear o5 g5))
            have CW := write_any A6 c6 (L.take i ++ [(x1, (k : Int)), (x2, (r : Int))] ++ L.drop (i + 1)) (parts_small HB.out i (by omega) (by omega)) w5 (by rw [List.flatMap_append]; exact r6) (by simp; omega)
            rw [parts_len L i _ _ hi] at CW
            unfold WPost at CW
            rw [HW.out.1, HW.out.2] at CW
            have CW' := Lib.hid CW
            clear CW
            with_reducible refine CW'.out.mono ?_
            rintro e w6 ⟨rfl, b6⟩
            go_wp2_with fail
            go_ret
            exact ⟨rfl, below_cat (below_cat B2 S5) b6⟩
      · go_simp
        have S1 : Below w2.heap.size w2 (w2.alloc (.cells #[.int .u64 (x1 : Int), .int .i64 (k : Int), .int .u64 (x2 : Int), .int .i64 (r : Int)] 50)).drew := ((Below.refl _ w2).alloc (Nat.le_refl _) _).drew
        refine hK _ _ (below_cat B2 S1) ?_
        clear hK K
        refine Seq.on_seq [(0, true), (4, true), (32, true), (33, false)] (by kernel_rfl) (fun _ _ d _ _ h => by cases d <;> exact h) (below_cat B2 S1) ?_
        simp only [Seq.lay, List.getElem?_cons_zero, List.getElem?_cons_succ]
        refine Seq.seq_do (by rfl) (fun K hK => ?_)
        go_simp
        have S2 : Below w2.heap.size w2 ((w2.alloc (.cells #[.int .u64 (x1 : Int), .int .i64 (k : Int), .int .u64 (x2 : Int), .int .i64 (r : Int)] 50)).alloc (.cells #[] 50)).drew := (((Below.refl _ w2).alloc (Nat.le_refl _) _).alloc (by simp) _).drew
        refine hK _ _ (below_cat B2 S2) ?_
        clear hK K
        have hnil : ((w2.alloc (.cells #[.int .u64 (x1 : Int), .int .i64 (k : Int), .int .u64 (x2 : Int), .int .i64 (r : Int)] 50)).alloc (.cells #[] 50)).ownsRow (w2.heap.size + 1) 50 2 (.slice (some ⟨w2.heap.size + 1, 0, none⟩) 0 0) 0 [] := by
          have h := World.ownsRow_lit (w2.alloc (.cells #[.int .u64 (x1 : Int), .int .i64 (k : Int), .int .u64 (x2 : Int), .int .i64 (r : Int)] 50)) #[] 0 (base := w2.heap.size + 1) (e := 50) (size := 2) (by simp) (by decide) rfl
          simpa using h
        refine Seq.seq_do (by rfl) (fun K hK => ?_)
        refine wp_app elemFld (.tmp 55) (.tmp 58) rfl (w2.heap.size + 1) _ 0 [] rfl (hnil) (some ⟨b, o, none⟩) i c ((L.take i).flatMap fld) w.heap.size rfl (by rw [flat_len fld 2 fld_len, List.length_take, Nat.min_eq_left (by omega)]) ((R.out.first fld_len i).below (below_cat B2 S2)) (flat_one fld fld_one _) (fun e => by cases e) (by omega) (by omega) (by simp <;> omega) ?_
        intro v3 w3 o3 g3
        have S3 : Below w2.heap.size w2 w3 := S2.grown g3 S2.size (fun k e => by cases e; exact Nat.le_succ _)
        refine hK _ _ (below_cat B2 S3) ?_
        clear hK K
        have hlit : Row (w2.alloc (.cells #[.int .u64 (x1 : Int), .int .i64 (k : Int), .int .u64 (x2 : Int), .int .i64 (r : Int)] 50)) (w2.heap.size + 1) (some ⟨w2.heap.size, 0, none⟩) [.int .u64 (x1 : Int), .int .i64 (k : Int), .int .u64 (x2 : Int), .int .i64 (r : Int)] := Row.lit w2 _ [.int .u64 (x1 : Int), .int .i64 (k : Int), .int .u64 (x2 : Int), .int .i64 (r : Int)] _ (by omega)
        have hrow := Row.grown (w := ((w2.alloc (.cells #[.int .u64 (x1 : Int), .int .i64 (k : Int), .int .u64 (x2 : Int), .int .i64 (r : Int)] 50)).alloc (.cells #[] 50)).drew) ((hlit.below ((Below.refl _ (w2.alloc (.cells #[.int .u64 (x1 : Int), .int .i64 (k : Int), .int .u64 (x2 : Int), .int .i64 (r : Int)] 50))).alloc (by simp) (.cells #[] 50))).drew) (by simp) g3 (fun b o e => by cases e; simp [Act.eval, Value.ownBlock])
        refine Seq.seq_do (by rfl) (fun K hK => ?_)
        refine wp_app elemFld (.tmp 59) (.tmp 86) rfl (w2.heap.size + 1) v3 (0 + i) _ rfl (o3) (some ⟨w2.heap.size, 0, none⟩) 2 2 [.int .u64 (x1 : Int), .int .i64 (k : Int), .int .u64 (x2 : Int), .int .i64 (r : Int)] (w2.heap.size + 1) rfl rfl (hrow) (by simp [Value.oneCell']) (fun e => by cases e) (by omega) (by omega) (by have h1 := S3.size; have h2 := g3.size; simp at h1 h2 ⊢; omega) ?_
        intro v4 w4 o4 g4
        have S4 : Below w2.heap.size w2 w4 := S3.grown g4 S3.size (fun k e => by have := (o3.lt k e).1; omega)
        refine hK _ _ (below_cat B2 S4) ?_
        clear hK K
        refine Seq.seq_read (v := ?_) (by rfl) ?_ ?_
        rotate_left
        · intro w' _; go_simp; with_reducible rfl
        simp only [Act.put, List.setIfInBounds_toArray, List.set_cons_zero, List.set_cons_succ]
        refine Seq.seq_nil ?_
        have HO := Lib.hid (own_mk (base' := w2.heap.size) (by omega) o4)
        clear o4 g4 o3 g3 S3
        by_cases hic : i + 1 = c
        · have hdr : (L.drop (i + 1)).flatMap fld = [] := by rw [List.drop_of_length_le (by omega)]; rfl
          have HD := Lib.hid hdr
          have hic2 : (i : Int) + 1 = (c : Int) := by omega
          clear hdr
          go_wp2_with (first
            | (at_builtin
               refine app elemFld rfl (.tmp 89) (.tmp 93) rfl w2.heap.size _ (i + 2) _ rfl HO.out (some ⟨b, o, none⟩) 0 _ [] w.heap.size rfl rfl (Row.nil _ _ _) (by simp) (fun e => by cases e) (by omega) (by omega) S4.size ?_
               intro v5 w5 o5 g5
               have S5 : Below w2.heap.size w2 w5 := S4.grown g5 S4.size (fun k e => (HO.out.lt k e).1)
               obtain ⟨A6, c6, rfl, n6, l6, r6⟩ := own_row o5
               clear o5 g5))
          have CW := write_any A6 c6 (L.take i ++ [(x1, (k : Int)), (x2, (r : Int))] ++ L.drop (i + 1)) (parts_small HB.out i (by omega) (by omega)) w5 (by rw [List.flatMap_append, HD.out]; exact r6) (by simp; omega)
          rw [parts_len L i _ _ hi, show L.length - (i + 1) = 0 from by omega, Nat.add_zero] at CW
          unfold WPost at CW
          rw [HW.out.1, HW.out.2] at CW
          have CW' := Lib.hid CW
          clear CW
          with_reducible refine CW'.out.mono ?_
          rintro e w6 ⟨rfl, b6⟩
          go_wp2_with fail
          go_ret
          exact ⟨rfl, below_cat (below_cat B2 S5) b6⟩
        · have hic2 : (i : Int) + 1 < (c : Int) := by omega
          have hic3 : (i : Int) + 1 ≤ (L.length : Int) := by omega
          go_wp2_with (first
            | (at_builtin
               refine app elemFld rfl (.tmp 89) (.tmp 93) rfl w2.heap.size _ (i + 2) _ rfl HO.out (some ⟨b, o + (i + 1) * 2, none⟩) _ _ ((L.drop (i + 1)).flatMap fld) w.heap.size rfl (by rw [flat_len fld 2 fld_len, List.length_drop]) ((R.out.behind fld_len (i + 1)).below (below_cat B2 S4)) (flat_one fld fld_one _) (fun e => by cases e) (by omega) (by omega) S4.size ?_
               intro v5 w5 o5 g5
               have S5 : Below w2.heap.size w2 w5 := S4.grown g5 S4.size (fun k e => (HO.out.lt k e).1)
               obtain ⟨A6, c6, rfl, n6, l6, r6⟩ := own_row o5
               clear o5 g5))
          have CW := write_any A6 c6 (L.take i ++ [(x1, (k : Int)), (x2, (r : Int))] ++ L.drop (i + 1)) (parts_small HB.out i (by omega) (by omega)) w5 (by rw [List.flatMap_append]; exact r6) (by simp; omega)
          rw [parts_len L i _ _ hi] at CW
          unfold WPost at CW
          rw [HW.out.1, HW.out.2] at CW
          have CW' := Lib.hid CW
          clear CW
          with_reducible refine CW'.out.mono ?_
          rintro e w6 ⟨rfl, b6⟩
          go_wp2_with fail
          go_ret
          exact ⟨rfl, below_cat (below_cat B2 S5) b6⟩
theorem bitsParts_any (A : Option Addr) (c : Nat) (L : List (Nat × Int)) (hcap : L.length ≤ c) (i k : Int) (w : World) (H : HF w A L) :
    Calls Try.prog 12 #[.slice A L.length c, .int .i64 i, .int .i64 k] w (Gives (.bool true) w) := by
  by_cases he : (writeF L).2 = 0
  · by_cases h1 : i < 0
    · exact bitsParts_out A c L i k w H he (.inl (decide_eq_true h1))
    · by_cases h2 : (L.length : Int) ≤ i
      · exact bitsParts_out A c L i k w H he (.inr (.inl ⟨decide_eq_false h1, decide_eq_true h2⟩))
      · by_cases h3 : k < 1
        · exact bitsParts_out A c L i k w H he (.inr (.inr ⟨decide_eq_false h1, decide_eq_false h2, decide_eq_true h3⟩))
        · obtain ⟨a, rfl⟩ := Int.eq_ofNat_of_zero_le (show 0 ≤ i by omega)
          obtain ⟨b, rfl⟩ := Int.eq_ofNat_of_zero_le (show 0 ≤ k by omega)
          exact bitsParts_in A c L hcap a b w H he (by omega) (by omega)
  · exact bitsParts_bad A c L i k w H he
end Go.Proofs.Ytmcihmcgkhijcaa.BitsA
