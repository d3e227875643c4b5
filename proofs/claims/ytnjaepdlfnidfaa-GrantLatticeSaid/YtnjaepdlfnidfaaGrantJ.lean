/- The walk of JoinConsent. -/
import Derived.Test.YtnjaepdlfnidfaaGrantI
namespace Go.Proofs.Ytnjaepdlfnidfaa.GrantJ
open Go.RowKit Go.Maps Mem Scan GrantP GrantW GrantX GrantY GrantZ GrantM GrantB GrantC GrantD GrantE GrantH GrantI Facts Glue

theorem both_cases (g g' : Int) (P Q : Nat → Bool) (V U : List Int) : (∃ x : Nat, x ≠ 0 ∧ bothF (· && ·) g g' P Q V U = (0, fun _ => false, [], x) ∧ bothF (· || ·) g g' P Q V U = (0, fun _ => false, [], x)) ∨
    (∃ l, bothF (· && ·) g g' P Q V U = (max g g', fun i => P i && Q i, l, 0) ∧ bothF (· || ·) g g' P Q V U = (max g g', fun i => P i || Q i, upto (fun v => V.contains v || U.contains v), 0) ∧ V.length ≤ 40 ∧ U.length ≤ 40) := by
  by_cases h1 : check g V = 0
  · by_cases h2 : check g' U = 0
    · exact .inr ⟨_, by unfold bothF; rw [if_neg (by simp [h1]), if_neg (by simp [h2])], by unfold bothF; rw [if_neg (by simp [h1]), if_neg (by simp [h2])], right_len (right_of (check_zero h1).2), right_len (right_of (check_zero h2).2)⟩
    · exact .inl ⟨check g' U, h2, by unfold bothF; rw [if_neg (by simp [h1]), if_pos h2], by unfold bothF; rw [if_neg (by simp [h1]), if_pos h2]⟩
  · exact .inl ⟨check g V, h1, by unfold bothF; rw [if_pos h1], by unfold bothF; rw [if_pos h1]⟩
set_option maxRecDepth 100000 in
set_option maxHeartbeats 16000000 in
theorem joinOf_any (g g' : Int) (P Q : Nat → Bool) (A : Option Addr) (c : Nat) (V : List Int) (A' : Option Addr) (c' : Nat) (U : List Int) (w : World)
    (hr : Row w w.heap.size A (intV V)) (hr' : Row w w.heap.size A' (intV U)) (hn : V.length ≤ 1152921504606846976) (hn' : U.length ≤ 1152921504606846976) :
    Calls Try.prog 11 #[conV g P A V.length c, conV g' Q A' U.length c'] w (CPostR (bothF (· || ·) g g' P Q V U) w) := by
  have CC := fun w' h h' => meetOf_any g g' P Q A c V A' c' U w' h h' hn hn'
  have hcas := both_cases g g' P Q V U
  generalize bothF (· && ·) g g' P Q V U = r1 at CC hcas
  generalize bothF (· || ·) g g' P Q V U = r at hcas ⊢
  generalize max g g' = m at hcas
  have CC := Lib.hid CC
  have HCAS := Lib.hid hcas
  clear hcas
  go_enter Try.func11, Try.ntmps11
  have HA := ((ConAt.new w g P (.slice A V.length c)).alloc (.cells (conC g' Q (.slice A' U.length c')) 25)).alloc (.cells (conC 0 (fun _ => false) (.slice none 0 0)) 25)
  have HB := (ConAt.new (w.alloc (.cells (conC g P (.slice A V.length c)) 25)) g' Q (.slice A' U.length c')).alloc (.cells (conC 0 (fun _ => false) (.slice none 0 0)) 25)
  have HZ := ConAt.new ((w.alloc (.cells (conC g P (.slice A V.length c)) 25)).alloc (.cells (conC g' Q (.slice A' U.length c')) 25)) 0 (fun _ => false) (.slice none 0 0)
  have hb : Below w.heap.size w (((w.alloc (.cells (conC g P (.slice A V.length c)) 25)).alloc (.cells (conC g' Q (.slice A' U.length c')) 25)).alloc (.cells (conC 0 (fun _ => false) (.slice none 0 0)) 25)) := (((Below.refl _ w).alloc (Nat.le_refl _) _).alloc (by simp) _).alloc (by simp; omega) _
  rw [World.size_alloc] at HB HZ
  rw [World.size_alloc] at HZ
  go_wp2_with fail
  with_reducible refine (CC.out _ (hr.at' hb) (hr'.at' hb)).mono ?_
  rintro e w1 ⟨v1, rfl, hown1, b1⟩
  have HA1 := HA.below b1
  have HB1 := HB.below b1
  have HZ1 := HZ.below b1
  have hb1 := below_cat hb b1
  obtain ⟨Av1, cv1, rfl, _, _, _⟩ := own_row hown1
  clear HA HB HZ hb b1 CC hown1
  rcases HCAS.out with ⟨x, hx, rfl, rfl⟩ | ⟨l1, rfl, rfl, lV, lU⟩
  · clear HCAS
    have hx0 : ((x : Int) == 0) = false := by rw [beq_eq_false_iff_ne]; omega
    have hx1 : ((x : Int) != 0) = true := by simp; omega
    have HZ2 := HZ1.alloc (.cells (conC 0 (fun _ => false) (.slice Av1 0 cv1)) 25)
    have hb2 := below_new hb1 (.cells (conC 0 (fun _ => false) (.slice Av1 0 cv1)) 25)
    obtain ⟨z0, z1, z2, z3, z4, z5, z6, z7, z8, z9, z10, z11⟩ := HZ2.all
    have f := HZ2.free
    dsimp only
    go_wp2_with fail
    have HE := ends_bad HZ2 hb2 (by omega)
    change bodyPost _ _ _ _ _ (storeC (w1.alloc (.cells (conC 0 (fun _ => false) (.slice Av1 0 cv1)) 25)) (w.heap.size + 1 + 1) 0 (fun _ => false) (.slice none 0 0))
    obtain ⟨HZ3, hb5⟩ := HE
    generalize storeC (w1.alloc (.cells (conC 0 (fun _ => false) (.slice Av1 0 cv1)) 25)) (w.heap.size + 1 + 1) 0 (fun _ => false) (.slice none 0 0) = W3 at HZ3 hb5 ⊢
    obtain ⟨r0, r1, r2, r3, r4, r5, r6, r7, r8, r9, r10, r11⟩ := HZ3.all
    refine bodyPost_ret (v := .tuple #[.agg (conC 0 (fun _ => false) (.slice none 0 0)), .int .i64 (x : Int)]) (by simp [results, Try.results11, go_sem, r0, r1, r2, r3, r4, r5, r6, r7, r8, r9, r10, r11]) rfl ⟨_, rfl, World.ownsRow_nil _ _ _ _, hb5⟩
  · clear HCAS
    dsimp only
    go_wp2_with fail
    change Code.wp _ _ _ _ (w1.alloc (.cells (conC m (fun i => P i && Q i) (.slice none 0 0)) 25))
    have HO := ConAt.new w1 m (fun i => P i && Q i) (.slice none 0 0)
    have hb3 := below_new hb1 (.cells (conC m (fun i => P i && Q i) (.slice none 0 0)) 25)
    have hlA := HA1.lt
    have hlB := HB1.lt
    have hlZ := HZ1.lt
    have HA3 := HA1.alloc (.cells (conC m (fun i => P i && Q i) (.slice none 0 0)) 25)
    have HB3 := HB1.alloc (.cells (conC m (fun i => P i && Q i) (.slice none 0 0)) 25)
    have HZ3 := HZ1.alloc (.cells (conC m (fun i => P i && Q i) (.slice none 0 0)) 25)
    have hzO : w1.heap.size < (w1.alloc (.cells (conC m (fun i => P i && Q i) (.slice none 0 0)) 25)).heap.size := by simp
    generalize hO : w1.heap.size = O at HO hlA hlB hlZ hzO ⊢
    generalize w1.alloc (.cells (conC m (fun i => P i && Q i) (.slice none 0 0)) 25) = W3 at HO hb3 HA3 HB3 HZ3 hzO ⊢
    clear HA1 HB1 HZ1 hb1 hO
    go_loopw [8] (fun i wr => ∃ (k : Nat) (R : Nat → Bool), k ≤ 10 ∧ i = .int .i64 k ∧ ConAt wr O m R (.slice none 0 0) ∧ (∀ i, i < 10 → R i = if i < k then P i || Q i else P i && Q i) ∧ Kept (· ≠ O) W3 wr) (fun i _ => 10 - (intOf i).toNat)
    case atStart => exact ⟨0, fun i => P i && Q i, by omega, rfl, HO, fun i hi => by simp, Kept.refl _ _⟩
    case round =>
      obtain ⟨k, R, hk10, rfl, hcon, hR, hkept⟩ := hrel
      have HRR := Lib.hid hR
      clear hR HO
      by_cases hlt : k < 10
      · have d0 : (k : Int) < 10 := by omega
        have hP := (HA3.of (hkept.block _ HA3.lt (by omega))).b k hlt
        have hQ := (HB3.of (hkept.block _ HB3.lt (by omega))).b k hlt
        have hf := hcon.free (1 + k)
        have hold := hcon.b k hlt
        have hset := fun b => hcon.setB k hlt b
        have HSET := Lib.hid hset
        have hnew : Hid (∀ b, b = (P k || Q k) → ∀ i, i < 10 → upd R k b i = if i < k + 1 then P i || Q i else P i && Q i) := Lib.hid (by
          intro b hb i hi
          unfold upd
          by_cases e : i = k
          · subst e; rw [if_pos rfl, if_pos (by omega), hb]
          · rw [if_neg e, HRR.out i hi]
            by_cases h2 : i < k
            · rw [if_pos h2, if_pos (by omega)]
            · rw [if_neg h2, if_neg (by omega)])
        clear hset hcon
        cases hp : P k with
        | true =>
          rw [hp] at hP
          have HN := Lib.hid (hnew.out true (by rw [hp]; rfl))
          clear hnew hp hQ
          go_wp2_with fail
          go_roundw
          case rel => exact ⟨k + 1, upd R k true, by omega, by go_num, HSET.out true, HN.out, hkept.setCell (fun h => absurd rfl h) _⟩
          case measure => simp [intOf]; omega
        | false =>
          rw [hp] at hP
          have HN := Lib.hid (hnew.out (Q k) (by rw [hp]; rfl))
          clear hnew hp
          go_wp2_with fail
          go_roundw
          case rel => exact ⟨k + 1, upd R k (Q k), by omega, by go_num, HSET.out (Q k), HN.out, hkept.setCell (fun h => absurd rfl h) _⟩
          case measure => simp [intOf]; omega
      · obtain rfl : k = 10 := by omega
        go_wp2_with fail
        have HO4 : ConAt wr O m (fun i => P i || Q i) (.slice none 0 0) := hcon.congr (fun i hi => by rw [HRR.out i hi, if_pos hi])
        have HA4 := HA3.of (hkept.block _ HA3.lt (by omega))
        have HB4 := HB3.of (hkept.block _ HB3.lt (by omega))
        have HZ4 := HZ3.of (hkept.block _ HZ3.lt (by omega))
        have hb6 : Below w.heap.size w wr := hb3.trans (hkept.below hb3.size (fun j hj => by omega))
        have lA := HA4.lt
        have lB := HB4.lt
        have lZ := HZ4.lt
        have lO := HO4.lt
        clear hcon HRR hkept HA3 HB3 HZ3 hb3
        have hrow0 : wr.ownsRow wr.heap.size 3 1 (.slice none 0 0) 0 (intV ((nums.take 0).filter (fun v => V.contains v || U.contains v))) := World.ownsRow_nil _ _ _ _
        generalize wr = W4 at HO4 HA4 HB4 HZ4 hb6 lA lB lZ lO hrow0 ⊢
        go_loopw [9] (fun i W => ∃ (k : Nat) (vv : Value) (n : Nat), k ≤ 40 ∧ i = .int .i64 ((k : Int) + 1) ∧ n = ((nums.take k).filter (fun v => V.contains v || U.contains v)).length ∧ Pushed W4 O m (fun i => P i || Q i) vv vv n ((nums.take k).filter (fun v => V.contains v || U.contains v)) W) (fun i _ => 41 - (intOf i).toNat)
        case atStart => exact ⟨0, _, _, by omega, by simp, rfl, HO4, hrow0, Kept.refl _ _⟩
        case round =>
          clear hrow0 HO4
          rename World => W
          obtain ⟨k, vv, n, hk, rfl, hnl, hpush⟩ := hrel
          have hn40 : n ≤ 40 := by
            have : nums.length = 40 := by simp [nums]
            rw [hnl]; exact Nat.le_trans (List.length_filter_le _ _) (by rw [List.length_take]; omega)
          have HNL := Lib.hid hnl
          have hkept := hpush.2.2
          have HPU := Lib.hid hpush
          have cA := (HA4.of (hkept.block _ lA (by omega))).at' 11 _ rfl
          have cB := (HB4.of (hkept.block _ lB (by omega))).at' 11 _ rfl
          have hbW : Below w.heap.size w W := hb6.trans (hkept.below hb6.size (fun j hj => by omega))
          clear hnl hpush hkept
          by_cases hlt : k < 40
          · have d0 : (k : Int) + 1 ≤ 40 := by omega
            have htk := nums_at k hlt
            have hfl : ((nums.take (k + 1)).filter (fun v => V.contains v || U.contains v)) = ((nums.take k).filter (fun v => V.contains v || U.contains v)) ++ (if V.contains ((k : Int) + 1) || U.contains ((k : Int) + 1) then [(k : Int) + 1] else []) := by
              have hf1 : ∀ (f : Int → Bool) (x : Int), [x].filter f = if f x then [x] else [] := fun f x => by cases h : f x <;> simp [h]
              rw [htk, List.filter_append, hf1]
            have CV := hasVendor_any A c V ((k : Int) + 1) W (hr.at' hbW) (by omega)
            have CU := hasVendor_any A' c' U ((k : Int) + 1) W (hr'.at' hbW) (by omega)
            have CV := Lib.hid CV
            have CU := Lib.hid CU
            clear htk
            have HFL := Lib.hid hfl
            clear hfl
            generalize V.contains ((k : Int) + 1) = bv at CV HFL
            generalize U.contains ((k : Int) + 1) = bu at CU HFL
            cases bv with
            | false =>
              cases bu with
              | false =>
                go_wp2_with fail
                with_reducible refine CV.out.mono ?_
                rintro e w5 ⟨rfl, rfl⟩
                go_wp2_with fail
                with_reducible refine CU.out.mono ?_
                rintro e w5 ⟨rfl, rfl⟩
                go_wp2_with fail
                go_roundw
                case rel => (repeat apply Exists.intro); exact ⟨⟨k + 1, vv, n, by omega, by go_num, by rw [HFL.out, HNL.out]; simp, by rw [HFL.out]; simpa using HPU.out⟩, rfl⟩
                case measure => simp [intOf]; omega
              | true =>
                have HF2 : Hid ((nums.take (k + 1)).filter (fun v => V.contains v || U.contains v) = (nums.take k).filter (fun v => V.contains v || U.contains v) ++ [(k : Int) + 1]) := Lib.hid (by have := HFL.out; simpa using this)
                clear HFL
                obtain ⟨hcon, hown, hkept⟩ := HPU.out
                clear HPU
                have cV := hcon.at' 11 _ rfl
                have lO2 := hcon.lt
                have fO := hcon.free 11
                have hsz := hkept.size
                have zW8 : W4.heap.size ≤ (W.alloc (.cells #[.int .i64 ((k : Int) + 1)] 3)).heap.size := by simp; omega
                have hrowN : Row (W.alloc (.cells #[.int .i64 ((k : Int) + 1)] 3)) (W.heap.size + 1) (some ⟨W.heap.size, 0, none⟩) [.int .i64 ((k : Int) + 1)] := Row.lit W _ _ _ (by omega)
                have hn8 : (n + 1) * 8 ≤ 140737488355328 := by omega
                have hn9 : n + 1 ≤ 9223372036854775807 := by omega
                have hown2 := hown.alloc (.cells #[.int .i64 ((k : Int) + 1)] 3)
                have h1c : ∀ u ∈ [Value.int .i64 ((k : Int) + 1)], u.oneCell' = true := by simp [Value.oneCell']
                have HGO : Hid (∀ wa, (W.alloc (.cells #[.int .i64 ((k : Int) + 1)] 3)).grownBy wa vv.ownBlock → ConAt wa O m (fun i => P i || Q i) vv) := Lib.hid (fun wa ga => (hcon.alloc (.cells #[.int .i64 ((k : Int) + 1)] 3)).of (ga.block O (by simp; omega) (fun e => by have := (hown2.lt O e.symm).1; omega)))
                have HKE := Lib.hid (hkept.alloc (.cells #[.int .i64 ((k : Int) + 1)] 3))
                have H8 := Lib.hid hn8; have H9 := Lib.hid hn9; have H1 := Lib.hid h1c; have HRN := Lib.hid hrowN; have HZ8 := Lib.hid zW8
                clear hn8 hn9 h1c hrowN zW8 hcon hown hkept
                go_wp2_with fail
                with_reducible refine CV.out.mono ?_
                rintro e w5 ⟨rfl, rfl⟩
                go_wp2_with fail
                with_reducible refine CU.out.mono ?_
                rintro e w5 ⟨rfl, rfl⟩
                go_wp2_with (first
                  | (at_builtin
                     refine app_at elemI rfl (.tmp 53) (.tmp 55) rfl W4.heap.size vv n _ rfl hown2 ⟨W.heap.size, 0, none⟩ 1 1 [.int .i64 ((k : Int) + 1)] (W.heap.size + 1) rfl rfl HRN.out H1.out H8.out H9.out HZ8.out ?_
                     intro v' wa oa ga _
                     obtain ⟨gq, capq, rfl⟩ := ownsRow_succ oa
                     have hgO := HGO.out wa ga
                     have cO := hgO.at' 11 _ rfl
                     have fO2 := hgO.free 11
                     have OA := Lib.hid oa
                     have GA := Lib.hid ga
                     have HGO1 := Lib.hid hgO
                     clear oa ga hgO cV fO))
                go_roundw
                case rel =>
                  (repeat apply Exists.intro)
                  refine ⟨⟨k + 1, .slice (some ⟨gq, 0, none⟩) (n + 1) capq, n + 1, by omega, by go_num, by rw [HF2.out, List.length_append, ← HNL.out]; rfl, HGO1.out.setV _, ?_, ?_⟩, rfl⟩
                  · rw [HF2.out, intV_snoc]; exact ownsRow_setCell_other OA.out (fun e => by have h9 : W4.heap.size ≤ O := (OA.out.lt O e).1; omega) _
                  · exact (HKE.out.grown GA.out (fun j e _ => (hown2.lt j e).1)).setCell (fun h => absurd rfl h) _
                case measure => simp [intOf]; omega
            | true =>
              clear CU
              have HF2 : Hid ((nums.take (k + 1)).filter (fun v => V.contains v || U.contains v) = (nums.take k).filter (fun v => V.contains v || U.contains v) ++ [(k : Int) + 1]) := Lib.hid (by have := HFL.out; simpa using this)
              clear HFL
              obtain ⟨hcon, hown, hkept⟩ := HPU.out
              clear HPU
              have cV := hcon.at' 11 _ rfl
              have lO2 := hcon.lt
              have fO := hcon.free 11
              have hsz := hkept.size
              have zW8 : W4.heap.size ≤ (W.alloc (.cells #[.int .i64 ((k : Int) + 1)] 3)).heap.size := by simp; omega
              have hrowN : Row (W.alloc (.cells #[.int .i64 ((k : Int) + 1)] 3)) (W.heap.size + 1) (some ⟨W.heap.size, 0, none⟩) [.int .i64 ((k : Int) + 1)] := Row.lit W _ _ _ (by omega)
              have hn8 : (n + 1) * 8 ≤ 140737488355328 := by omega
              have hn9 : n + 1 ≤ 9223372036854775807 := by omega
              have hown2 := hown.alloc (.cells #[.int .i64 ((k : Int) + 1)] 3)
              have h1c : ∀ u ∈ [Value.int .i64 ((k : Int) + 1)], u.oneCell' = true := by simp [Value.oneCell']
              have HGO : Hid (∀ wa, (W.alloc (.cells #[.int .i64 ((k : Int) + 1)] 3)).grownBy wa vv.ownBlock → ConAt wa O m (fun i => P i || Q i) vv) := Lib.hid (fun wa ga => (hcon.alloc (.cells #[.int .i64 ((k : Int) + 1)] 3)).of (ga.block O (by simp; omega) (fun e => by have := (hown2.lt O e.symm).1; omega)))
              have HKE := Lib.hid (hkept.alloc (.cells #[.int .i64 ((k : Int) + 1)] 3))
              have H8 := Lib.hid hn8; have H9 := Lib.hid hn9; have H1 := Lib.hid h1c; have HRN := Lib.hid hrowN; have HZ8 := Lib.hid zW8
              clear hn8 hn9 h1c hrowN zW8 hcon hown hkept
              go_wp2_with fail
              with_reducible refine CV.out.mono ?_
              rintro e w5 ⟨rfl, rfl⟩
              go_wp2_with (first
                | (at_builtin
                   refine app_at elemI rfl (.tmp 53) (.tmp 55) rfl W4.heap.size vv n _ rfl hown2 ⟨W.heap.size, 0, none⟩ 1 1 [.int .i64 ((k : Int) + 1)] (W.heap.size + 1) rfl rfl HRN.out H1.out H8.out H9.out HZ8.out ?_
                   intro v' wa oa ga _
                   obtain ⟨gq, capq, rfl⟩ := ownsRow_succ oa
                   have hgO := HGO.out wa ga
                   have cO := hgO.at' 11 _ rfl
                   have fO2 := hgO.free 11
                   have OA := Lib.hid oa
                   have GA := Lib.hid ga
                   have HGO1 := Lib.hid hgO
                   clear oa ga hgO cV fO))
              go_roundw
              case rel =>
                (repeat apply Exists.intro)
                refine ⟨⟨k + 1, .slice (some ⟨gq, 0, none⟩) (n + 1) capq, n + 1, by omega, by go_num, by rw [HF2.out, List.length_append, ← HNL.out]; rfl, HGO1.out.setV _, ?_, ?_⟩, rfl⟩
                · rw [HF2.out, intV_snoc]; exact ownsRow_setCell_other OA.out (fun e => by have h9 : W4.heap.size ≤ O := (OA.out.lt O e).1; omega) _
                · exact (HKE.out.grown GA.out (fun j e _ => (hown2.lt j e).1)).setCell (fun h => absurd rfl h) _
              case measure => simp [intOf]; omega
          · obtain rfl : k = 40 := by omega
            have HP := HPU.out
            have htk : nums.take 40 = nums := List.take_of_length_le (by simp [nums])
            rw [htk] at HP HNL
            obtain ⟨hcon, hown, hkept⟩ := HP
            obtain ⟨Av, cv, rfl, _, _, _⟩ := own_row hown
            have hZ := HZ4.of (hkept.block _ lZ (by omega))
            obtain ⟨z0, z1, z2, z3, z4, z5, z6, z7, z8, z9, z10, z11⟩ := hcon.all
            obtain ⟨y0, y1, y2, y3, y4, y5, y6, y7, y8, y9, y10, y11⟩ := hZ.all
            have fZ := hZ.free
            have HZS := hZ.store m (fun i => P i || Q i) (.slice Av n cv)
            have hKS := storeC_kept W (w.heap.size + 1 + 1) m (fun i => P i || Q i) (.slice Av n cv)
            have hownS := own_lower (a := w.heap.size) (own_kept hown hKS (by omega)) hb6.size
            have hblS : Below w.heap.size w (storeC W (w.heap.size + 1 + 1) m (fun i => P i || Q i) (.slice Av n cv)) := hbW.trans (hKS.below hbW.size (fun j hj => by omega))
            have HHS := Lib.hid HZS; have HOS := Lib.hid hownS; have HBS := Lib.hid hblS
            clear HZS hKS hownS hblS hown hcon hZ hkept
            go_wp2_with fail
            change bodyPost _ _ _ _ _ (storeC W (w.heap.size + 1 + 1) m (fun i => P i || Q i) (.slice Av n cv))
            generalize storeC W (w.heap.size + 1 + 1) m (fun i => P i || Q i) (.slice Av n cv) = W9 at HHS HOS HBS ⊢
            clear z0 z1 z2 z3 z4 z5 z6 z7 z8 z9 z10 z11 y0 y1 y2 y3 y4 y5 y6 y7 y8 y9 y10 y11
            obtain ⟨r0, r1, r2, r3, r4, r5, r6, r7, r8, r9, r10, r11⟩ := HHS.out.all
            refine bodyPost_ret (v := .tuple #[.agg (conC m (fun i => P i || Q i) (.slice Av n cv)), .int .i64 0]) (by simp [results, Try.results11, go_sem, r0, r1, r2, r3, r4, r5, r6, r7, r8, r9, r10, r11]) rfl ⟨_, rfl, ?_, HBS.out⟩
            have hn9 : n = (upto (fun v => V.contains v || U.contains v)).length := HNL.out
            show W9.ownsRow w.heap.size 3 1 (.slice Av n cv) (upto (fun v => V.contains v || U.contains v)).length (intV (upto (fun v => V.contains v || U.contains v)))
            rw [← hn9]
            exact HOS.out
end Go.Proofs.Ytnjaepdlfnidfaa.GrantJ
