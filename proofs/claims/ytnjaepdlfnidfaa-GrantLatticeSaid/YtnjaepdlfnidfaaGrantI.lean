/- The walk of MeetOf. -/
import Derived.Test.YtnjaepdlfnidfaaGrantH
namespace Go.Proofs.Ytnjaepdlfnidfaa.GrantI
open Go.RowKit Go.Maps Mem Scan GrantP GrantW GrantX GrantY GrantZ GrantM GrantB GrantC GrantD GrantE GrantH Facts Glue

theorem meet_vendors {V U : List Int} (h : Right V) : V.filter (U.contains ·) = upto fun v => V.contains v && U.contains v := meet_eq h
theorem filter_take (V : List Int) (f : Int → Bool) (k : Nat) (h : k < V.length) : (V.take (k + 1)).filter f = (V.take k).filter f ++ (if f (V.getD k 0) then [V.getD k 0] else []) := by
  rw [takeI V k h, List.filter_append]
  congr 1
  cases hf : f (V.getD k 0) with
  | false => rw [List.filter_cons_of_neg (by rw [hf]; decide)]; rfl
  | true => rw [List.filter_cons_of_pos hf]; rfl
set_option maxRecDepth 100000 in
set_option maxHeartbeats 16000000 in
theorem meetOf_any (g g' : Int) (P Q : Nat → Bool) (A : Option Addr) (c : Nat) (V : List Int) (A' : Option Addr) (c' : Nat) (U : List Int) (w : World)
    (hr : Row w w.heap.size A (intV V)) (hr' : Row w w.heap.size A' (intV U)) (hn : V.length ≤ 1152921504606846976) (hn' : U.length ≤ 1152921504606846976) :
    Calls Try.prog 10 #[conV g P A V.length c, conV g' Q A' U.length c'] w (CPostR (bothF (· && ·) g g' P Q V U) w) := by
  have CC := Lib.hid (fun w' h => refCheck_any g P A c V w' h (by omega))
  have CD := Lib.hid (fun w' h => refCheck_any g' Q A' c' U w' h (by omega))
  obtain ⟨r, hres⟩ : ∃ r, bothF (· && ·) g g' P Q V U = r := ⟨_, rfl⟩
  rw [hres]
  unfold bothF at hres
  have hrV : check g V = 0 → V.length ≤ 40 ∧ Right V := fun h => ⟨right_len (right_of (check_zero h).2), right_of (check_zero h).2⟩
  have hrU : check g' U = 0 → U.length ≤ 40 := fun h => right_len (right_of (check_zero h).2)
  generalize check g V = x at CC hres hrV
  generalize check g' U = y at CD hres hrU
  have HRV := Lib.hid hrV
  have HRU := Lib.hid hrU
  have HRES := Lib.hid hres
  clear hres hrV hrU
  go_enter Try.func10, Try.ntmps10
  have HA := ((ConAt.new w g P (.slice A V.length c)).alloc (.cells (conC g' Q (.slice A' U.length c')) 25)).alloc (.cells (conC 0 (fun _ => false) (.slice none 0 0)) 25)
  have HB := (ConAt.new (w.alloc (.cells (conC g P (.slice A V.length c)) 25)) g' Q (.slice A' U.length c')).alloc (.cells (conC 0 (fun _ => false) (.slice none 0 0)) 25)
  have HZ := ConAt.new ((w.alloc (.cells (conC g P (.slice A V.length c)) 25)).alloc (.cells (conC g' Q (.slice A' U.length c')) 25)) 0 (fun _ => false) (.slice none 0 0)
  have hb : Below w.heap.size w (((w.alloc (.cells (conC g P (.slice A V.length c)) 25)).alloc (.cells (conC g' Q (.slice A' U.length c')) 25)).alloc (.cells (conC 0 (fun _ => false) (.slice none 0 0)) 25)) := (((Below.refl _ w).alloc (Nat.le_refl _) _).alloc (by simp) _).alloc (by simp; omega) _
  rw [World.size_alloc] at HB HZ
  rw [World.size_alloc] at HZ
  go_wp2_with fail
  with_reducible refine (CC.out _ (hr.at' hb)).mono ?_
  rintro e w1 ⟨rfl, b1⟩
  have HA1 := HA.below b1
  have HB1 := HB.below b1
  have HZ1 := HZ.below b1
  have hb1 := below_cat hb b1
  clear HA HB HZ hb b1 CC
  by_cases hx : x = 0
  · subst hx
    obtain ⟨z0, z1, z2, z3, z4, z5, z6, z7, z8, z9, z10, z11⟩ := HB1.all
    go_wp2_with fail
    with_reducible refine (CD.out _ (hr'.at' hb1)).mono ?_
    rintro e w2 ⟨rfl, b2⟩
    have HA2 := HA1.below b2
    have HB2 := HB1.below b2
    have HZ2 := HZ1.below b2
    have hb2 := below_cat hb1 b2
    clear HA1 HB1 HZ1 hb1 b2 CD z0 z1 z2 z3 z4 z5 z6 z7 z8 z9 z10 z11
    by_cases hy : y = 0
    · subst hy
      obtain ⟨lV, hRV⟩ := HRV.out (by simp)
      have lU := HRU.out (by simp)
      have HRV' := Lib.hid hRV
      clear hRV HRV HRU
      obtain ⟨z0, z1, z2, z3, z4, z5, z6, z7, z8, z9, z10, z11⟩ := HA2.all
      have gB := HB2.at' 0 _ rfl
      have hlA := HA2.lt
      have hlB := HB2.lt
      by_cases hgg : g < g'
      · have hm : max g g' = g' := by omega
        have d1 : decide (g < g') = true := decide_eq_true hgg
        go_wp2_with fail
        change Code.wp _ _ _ _ (w2.alloc (.cells (conC g' P (.slice none 0 0)) 25))
        have HO := ConAt.new w2 g' P (.slice none 0 0)
        have hb3 := below_new hb2 (.cells (conC g' P (.slice none 0 0)) 25)
        have HA3 := HA2.alloc (.cells (conC g' P (.slice none 0 0)) 25)
        have HB3 := HB2.alloc (.cells (conC g' P (.slice none 0 0)) 25)
        have HZ3 := HZ2.alloc (.cells (conC g' P (.slice none 0 0)) 25)
        have hlZ := HZ2.lt
        have hzO : w2.heap.size < (w2.alloc (.cells (conC g' P (.slice none 0 0)) 25)).heap.size := by simp
        clear z0 z1 z2 z3 z4 z5 z6 z7 z8 z9 z10 z11 gB
        generalize hO : w2.heap.size = O at HO hlA hlB hlZ hzO ⊢
        generalize w2.alloc (.cells (conC g' P (.slice none 0 0)) 25) = W3 at HO hb3 HA3 HB3 HZ3 hzO ⊢
        clear HA2 HB2 HZ2 hb2 hO
        go_loopw [8] (fun i wr => ∃ (k : Nat) (R : Nat → Bool), k ≤ 10 ∧ i = .int .i64 k ∧ ConAt wr O g' R (.slice none 0 0) ∧ (∀ i, i < 10 → R i = if i < k then P i && Q i else P i) ∧ Kept (· ≠ O) W3 wr) (fun i _ => 10 - (intOf i).toNat)
        case atStart => exact ⟨0, P, by omega, rfl, HO, fun i hi => by simp, Kept.refl _ _⟩
        case round =>
          obtain ⟨k, R, hk10, rfl, hcon, hR, hkept⟩ := hrel
          have HRR := Lib.hid hR
          clear hR HO
          by_cases hlt : k < 10
          · have d0 : (k : Int) < 10 := by omega
            have hP := (HA3.of (hkept.block _ HA3.lt (by omega))).b k hlt
            have hQ := (HB3.of (hkept.block _ HB3.lt (by omega))).b k hlt
            have hf := hcon.free (1 + k)
            have hold := hcon.b k hlt
            have hset := fun b => hcon.setB k hlt b
            have HSET := Lib.hid hset
            have hnew : Hid (∀ b, b = (P k && Q k) → ∀ i, i < 10 → upd R k b i = if i < k + 1 then P i && Q i else P i) := Lib.hid (by
              intro b hb i hi
              unfold upd
              by_cases e : i = k
              · subst e; rw [if_pos rfl, if_pos (by omega), hb]
              · rw [if_neg e, HRR.out i hi]
                by_cases h2 : i < k
                · rw [if_pos h2, if_pos (by omega)]
                · rw [if_neg h2, if_neg (by omega)])
            clear hset hcon
            cases hp : P k with
            | false =>
              rw [hp] at hP
              have HN := Lib.hid (hnew.out false (by rw [hp]; rfl))
              clear hnew hp hQ
              go_wp2_with fail
              go_roundw
              case rel => exact ⟨k + 1, upd R k false, by omega, by go_num, HSET.out false, HN.out, hkept.setCell (fun h => absurd rfl h) _⟩
              case measure => simp [intOf]; omega
            | true =>
              rw [hp] at hP
              have HN := Lib.hid (hnew.out (Q k) (by rw [hp]; rfl))
              clear hnew hp
              go_wp2_with fail
              go_roundw
              case rel => exact ⟨k + 1, upd R k (Q k), by omega, by go_num, HSET.out (Q k), HN.out, hkept.setCell (fun h => absurd rfl h) _⟩
              case measure => simp [intOf]; omega
          · obtain rfl : k = 10 := by omega
            go_wp2_with fail
            have HO4 : ConAt wr O g' (fun i => P i && Q i) (.slice none 0 0) := hcon.congr (fun i hi => by rw [HRR.out i hi, if_pos hi])
            have HA4 := HA3.of (hkept.block _ HA3.lt (by omega))
            have HB4 := HB3.of (hkept.block _ HB3.lt (by omega))
            have HZ4 := HZ3.of (hkept.block _ HZ3.lt (by omega))
            have hb6 : Below w.heap.size w wr := hb3.trans (hkept.below hb3.size (fun j hj => by omega))
            have lA := HA4.lt
            have lB := HB4.lt
            have lZ := HZ4.lt
            have lO := HO4.lt
            clear hcon HRR hkept HA3 HB3 HZ3 hb3
            have hrow0 : wr.ownsRow wr.heap.size 3 1 (.slice none 0 0) 0 (intV ((V.take 0).filter (U.contains ·))) := World.ownsRow_nil _ _ _ _
            generalize wr = W4 at HO4 HA4 HB4 HZ4 hb6 lA lB lZ lO hrow0 ⊢
            go_loopw [9] (fun i W => ∃ (k : Nat) (vv : Value) (n : Nat), k ≤ V.length ∧ i = .int .i64 k ∧ n = ((V.take k).filter (U.contains ·)).length ∧ Pushed W4 O g' (fun i => P i && Q i) vv vv n ((V.take k).filter (U.contains ·)) W) (fun i _ => V.length - (intOf i).toNat)
            case atStart => exact ⟨0, _, _, Nat.zero_le _, rfl, rfl, HO4, hrow0, Kept.refl _ _⟩
            case round =>
              clear hrow0 HO4
              rename World => W
              obtain ⟨k, vv, n, hk, rfl, hnl, hpush⟩ := hrel
              have hn40 : n ≤ 40 := by
                rw [hnl]; exact Nat.le_trans (List.length_filter_le _ _) (by rw [List.length_take]; omega)
              have HNL := Lib.hid hnl
              have hkept := hpush.2.2
              have HPU := Lib.hid hpush
              have cA := (HA4.of (hkept.block _ lA (by omega))).at' 11 _ rfl
              have cB := (HB4.of (hkept.block _ lB (by omega))).at' 11 _ rfl
              have hbW : Below w.heap.size w W := hb6.trans (hkept.below hb6.size (fun j hj => by omega))
              clear hnl hpush hkept
              by_cases hlt : k < V.length
              · have hrV := hr.below hbW
                obtain ⟨b, o, hAe, hbB, hcs⟩ := ints_open hrV (by omega)
                have c0 := hcs k hlt
                have HFT := Lib.hid (filter_take V (U.contains ·) k hlt)
                have hmem : V.getD k 0 = V.getD k 0 := rfl
                have i1 : (0 : Int) ≤ (k : Int) := by omega
                have i2 : (k : Int) < (V.length : Int) := by omega
                have HROW := Lib.hid (hr.at' hbW)
                have HAE := Lib.hid hAe
                clear hcs hmem
                obtain ⟨x, hx⟩ : ∃ x, V.getD k 0 = x := ⟨_, rfl⟩
                rw [hx] at c0 HFT
                have HX := Lib.hid hx
                clear hx
                subst hAe
                have CV := fun n => hasVendor_any A' c' U x (W.drewN n) (hr'.at' (below_drewN hbW n)) (by omega)
                cases hux : U.contains x with
                | false =>
                  rw [hux] at CV HFT
                  have CQ : ∀ n, Calls Try.prog 27 #[.slice A' U.length c', .int .i64 x] (W.drewN n) fun e w'' => e = .returned (.bool false) ∧ ∃ m, w'' = W.drewN m := fun n => Calls.quiet_of_same ((CV n).mono fun _ _ h => ⟨h.1, h.2.symm⟩)
                  have CQ := Lib.hid CQ
                  clear CV hux
                  go_wp2_with fail
                  go_quiet ((go_at_call 27; exact CQ.out _))
                  go_wp2_with fail
                  go_roundw
                  case rel =>
                    repeat apply Exists.intro
                    exact ⟨⟨k + 1, vv, n, by omega, by go_num, by rw [HFT.out, HNL.out]; simp, by rw [HFT.out]; simpa using HPU.out.below (below_drewN (Below.refl _ _) _)⟩, rfl⟩
                  case measure => simp [intOf]; omega
                | true =>
                  rw [hux] at CV HFT
                  have CQ : ∀ n, Calls Try.prog 27 #[.slice A' U.length c', .int .i64 x] (W.drewN n) fun e w'' => e = .returned (.bool true) ∧ ∃ m, w'' = W.drewN m := fun n => Calls.quiet_of_same ((CV n).mono fun _ _ h => ⟨h.1, h.2.symm⟩)
                  have CQ := Lib.hid CQ
                  clear CV hux
                  go_wp2_with fail
                  go_quiet ((go_at_call 27; exact CQ.out _))
                  go_wp2_with fail
                  refine push_con (sA := w.heap.size) (A := some ⟨b, o, none⟩) (c := c) (k := k) (V := V) (x := x) rfl rfl rfl rfl rfl rfl rfl rfl rfl rfl rfl (by rfl) (by kernel_rfl) (fun vs => ⟨by kernel_rfl, by kernel_rfl, by kernel_rfl, by kernel_rfl, by kernel_rfl, by kernel_rfl, by kernel_rfl, by kernel_rfl, by kernel_rfl, by kernel_rfl, by kernel_rfl, by kernel_rfl, by kernel_rfl⟩) (HPU.out.below (below_drewN (Below.refl _ _) _)) lO ?_ lA (HROW.out.at' (below_drewN (Below.refl _ _) _)) hlt HX.out (by omega) ?_
                  · exact cA
                  intro vs W9 v hp9
                  have HP9 := Lib.hid hp9
                  clear hp9
                  simp only [fill, Act.put, List.setIfInBounds_toArray, List.set_cons_zero, List.set_cons_succ]
                  go_wp2_with fail
                  go_roundw
                  case rel =>
                    repeat apply Exists.intro
                    exact ⟨⟨k + 1, v, n + 1, by omega, by go_num, by rw [HFT.out, HNL.out]; simp, by rw [HFT.out]; exact HP9.out⟩, rfl⟩
                  case measure => simp [intOf]; omega
              · obtain rfl : k = V.length := by omega
                have HP := HPU.out
                rw [List.take_length] at HP HNL
                obtain ⟨hcon, hown, hkept⟩ := HP
                obtain ⟨Av, cv, rfl, _, _, _⟩ := own_row hown
                have hZ := HZ4.of (hkept.block _ lZ (by omega))
                obtain ⟨z0, z1, z2, z3, z4, z5, z6, z7, z8, z9, z10, z11⟩ := hcon.all
                obtain ⟨y0, y1, y2, y3, y4, y5, y6, y7, y8, y9, y10, y11⟩ := hZ.all
                have fZ := hZ.free
                have HZS := hZ.store g' (fun i => P i && Q i) (.slice Av n cv)
                have hKS := storeC_kept W (w.heap.size + 1 + 1) g' (fun i => P i && Q i) (.slice Av n cv)
                have hownS := own_lower (a := w.heap.size) (own_kept hown hKS (by omega)) hb6.size
                have hblS : Below w.heap.size w (storeC W (w.heap.size + 1 + 1) g' (fun i => P i && Q i) (.slice Av n cv)) := hbW.trans (hKS.below hbW.size (fun j hj => by omega))
                have HHS := Lib.hid HZS; have HOS := Lib.hid hownS; have HBS := Lib.hid hblS
                clear HZS hKS hownS hblS hown hcon hZ hkept
                go_wp2_with fail
                change bodyPost _ _ _ _ _ (storeC W (w.heap.size + 1 + 1) g' (fun i => P i && Q i) (.slice Av n cv))
                generalize storeC W (w.heap.size + 1 + 1) g' (fun i => P i && Q i) (.slice Av n cv) = W9 at HHS HOS HBS ⊢
                clear z0 z1 z2 z3 z4 z5 z6 z7 z8 z9 z10 z11 y0 y1 y2 y3 y4 y5 y6 y7 y8 y9 y10 y11
                obtain ⟨r0, r1, r2, r3, r4, r5, r6, r7, r8, r9, r10, r11⟩ := HHS.out.all
                have HRF : r = (g', (fun i => P i && Q i), V.filter (U.contains ·), 0) := by rw [← HRES.out, if_neg (by simp), if_neg (by simp), hm, meet_eq HRV'.out]
                rw [HRF]
                refine bodyPost_ret (v := .tuple #[.agg (conC g' (fun i => P i && Q i) (.slice Av n cv)), .int .i64 0]) (by simp [results, Try.results10, go_sem, r0, r1, r2, r3, r4, r5, r6, r7, r8, r9, r10, r11]) rfl ⟨_, rfl, ?_, HBS.out⟩
                show W9.ownsRow w.heap.size 3 1 (.slice Av n cv) (V.filter (U.contains ·)).length (intV (V.filter (U.contains ·)))
                rw [← HNL.out]
                exact HOS.out
      · have hm : max g g' = g := by omega
        have d1 : decide (g < g') = false := decide_eq_false hgg
        go_wp2_with fail
        change Code.wp _ _ _ _ (w2.alloc (.cells (conC g P (.slice none 0 0)) 25))
        have HO := ConAt.new w2 g P (.slice none 0 0)
        have hb3 := below_new hb2 (.cells (conC g P (.slice none 0 0)) 25)
        have HA3 := HA2.alloc (.cells (conC g P (.slice none 0 0)) 25)
        have HB3 := HB2.alloc (.cells (conC g P (.slice none 0 0)) 25)
        have HZ3 := HZ2.alloc (.cells (conC g P (.slice none 0 0)) 25)
        have hlZ := HZ2.lt
        have hzO : w2.heap.size < (w2.alloc (.cells (conC g P (.slice none 0 0)) 25)).heap.size := by simp
        clear z0 z1 z2 z3 z4 z5 z6 z7 z8 z9 z10 z11 gB
        generalize hO : w2.heap.size = O at HO hlA hlB hlZ hzO ⊢
        generalize w2.alloc (.cells (conC g P (.slice none 0 0)) 25) = W3 at HO hb3 HA3 HB3 HZ3 hzO ⊢
        clear HA2 HB2 HZ2 hb2 hO
        go_loopw [8] (fun i wr => ∃ (k : Nat) (R : Nat → Bool), k ≤ 10 ∧ i = .int .i64 k ∧ ConAt wr O g R (.slice none 0 0) ∧ (∀ i, i < 10 → R i = if i < k then P i && Q i else P i) ∧ Kept (· ≠ O) W3 wr) (fun i _ => 10 - (intOf i).toNat)
        case atStart => exact ⟨0, P, by omega, rfl, HO, fun i hi => by simp, Kept.refl _ _⟩
        case round =>
          obtain ⟨k, R, hk10, rfl, hcon, hR, hkept⟩ := hrel
          have HRR := Lib.hid hR
          clear hR HO
          by_cases hlt : k < 10
          · have d0 : (k : Int) < 10 := by omega
            have hP := (HA3.of (hkept.block _ HA3.lt (by omega))).b k hlt
            have hQ := (HB3.of (hkept.block _ HB3.lt (by omega))).b k hlt
            have hf := hcon.free (1 + k)
            have hold := hcon.b k hlt
            have hset := fun b => hcon.setB k hlt b
            have HSET := Lib.hid hset
            have hnew : Hid (∀ b, b = (P k && Q k) → ∀ i, i < 10 → upd R k b i = if i < k + 1 then P i && Q i else P i) := Lib.hid (by
              intro b hb i hi
              unfold upd
              by_cases e : i = k
              · subst e; rw [if_pos rfl, if_pos (by omega), hb]
              · rw [if_neg e, HRR.out i hi]
                by_cases h2 : i < k
                · rw [if_pos h2, if_pos (by omega)]
                · rw [if_neg h2, if_neg (by omega)])
            clear hset hcon
            cases hp : P k with
            | false =>
              rw [hp] at hP
              have HN := Lib.hid (hnew.out false (by rw [hp]; rfl))
              clear hnew hp hQ
              go_wp2_with fail
              go_roundw
              case rel => exact ⟨k + 1, upd R k false, by omega, by go_num, HSET.out false, HN.out, hkept.setCell (fun h => absurd rfl h) _⟩
              case measure => simp [intOf]; omega
            | true =>
              rw [hp] at hP
              have HN := Lib.hid (hnew.out (Q k) (by rw [hp]; rfl))
              clear hnew hp
              go_wp2_with fail
              go_roundw
              case rel => exact ⟨k + 1, upd R k (Q k), by omega, by go_num, HSET.out (Q k), HN.out, hkept.setCell (fun h => absurd rfl h) _⟩
              case measure => simp [intOf]; omega
          · obtain rfl : k = 10 := by omega
            go_wp2_with fail
            have HO4 : ConAt wr O g (fun i => P i && Q i) (.slice none 0 0) := hcon.congr (fun i hi => by rw [HRR.out i hi, if_pos hi])
            have HA4 := HA3.of (hkept.block _ HA3.lt (by omega))
            have HB4 := HB3.of (hkept.block _ HB3.lt (by omega))
            have HZ4 := HZ3.of (hkept.block _ HZ3.lt (by omega))
            have hb6 : Below w.heap.size w wr := hb3.trans (hkept.below hb3.size (fun j hj => by omega))
            have lA := HA4.lt
            have lB := HB4.lt
            have lZ := HZ4.lt
            have lO := HO4.lt
            clear hcon HRR hkept HA3 HB3 HZ3 hb3
            have hrow0 : wr.ownsRow wr.heap.size 3 1 (.slice none 0 0) 0 (intV ((V.take 0).filter (U.contains ·))) := World.ownsRow_nil _ _ _ _
            generalize wr = W4 at HO4 HA4 HB4 HZ4 hb6 lA lB lZ lO hrow0 ⊢
            go_loopw [9] (fun i W => ∃ (k : Nat) (vv : Value) (n : Nat), k ≤ V.length ∧ i = .int .i64 k ∧ n = ((V.take k).filter (U.contains ·)).length ∧ Pushed W4 O g (fun i => P i && Q i) vv vv n ((V.take k).filter (U.contains ·)) W) (fun i _ => V.length - (intOf i).toNat)
            case atStart => exact ⟨0, _, _, Nat.zero_le _, rfl, rfl, HO4, hrow0, Kept.refl _ _⟩
            case round =>
              clear hrow0 HO4
              rename World => W
              obtain ⟨k, vv, n, hk, rfl, hnl, hpush⟩ := hrel
              have hn40 : n ≤ 40 := by
                rw [hnl]; exact Nat.le_trans (List.length_filter_le _ _) (by rw [List.length_take]; omega)
              have HNL := Lib.hid hnl
              have hkept := hpush.2.2
              have HPU := Lib.hid hpush
              have cA := (HA4.of (hkept.block _ lA (by omega))).at' 11 _ rfl
              have cB := (HB4.of (hkept.block _ lB (by omega))).at' 11 _ rfl
              have hbW : Below w.heap.size w W := hb6.trans (hkept.below hb6.size (fun j hj => by omega))
              clear hnl hpush hkept
              by_cases hlt : k < V.length
              · have hrV := hr.below hbW
                obtain ⟨b, o, hAe, hbB, hcs⟩ := ints_open hrV (by omega)
                have c0 := hcs k hlt
                have HFT := Lib.hid (filter_take V (U.contains ·) k hlt)
                have hmem : V.getD k 0 = V.getD k 0 := rfl
                have i1 : (0 : Int) ≤ (k : Int) := by omega
                have i2 : (k : Int) < (V.length : Int) := by omega
                have HROW := Lib.hid (hr.at' hbW)
                have HAE := Lib.hid hAe
                clear hcs hmem
                obtain ⟨x, hx⟩ : ∃ x, V.getD k 0 = x := ⟨_, rfl⟩
                rw [hx] at c0 HFT
                have HX := Lib.hid hx
                clear hx
                subst hAe
                have CV := fun n => hasVendor_any A' c' U x (W.drewN n) (hr'.at' (below_drewN hbW n)) (by omega)
                cases hux : U.contains x with
                | false =>
                  rw [hux] at CV HFT
                  have CQ : ∀ n, Calls Try.prog 27 #[.slice A' U.length c', .int .i64 x] (W.drewN n) fun e w'' => e = .returned (.bool false) ∧ ∃ m, w'' = W.drewN m := fun n => Calls.quiet_of_same ((CV n).mono fun _ _ h => ⟨h.1, h.2.symm⟩)
                  have CQ := Lib.hid CQ
                  clear CV hux
                  go_wp2_with fail
                  go_quiet ((go_at_call 27; exact CQ.out _))
                  go_wp2_with fail
                  go_roundw
                  case rel =>
                    repeat apply Exists.intro
                    exact ⟨⟨k + 1, vv, n, by omega, by go_num, by rw [HFT.out, HNL.out]; simp, by rw [HFT.out]; simpa using HPU.out.below (below_drewN (Below.refl _ _) _)⟩, rfl⟩
                  case measure => simp [intOf]; omega
                | true =>
                  rw [hux] at CV HFT
                  have CQ : ∀ n, Calls Try.prog 27 #[.slice A' U.length c', .int .i64 x] (W.drewN n) fun e w'' => e = .returned (.bool true) ∧ ∃ m, w'' = W.drewN m := fun n => Calls.quiet_of_same ((CV n).mono fun _ _ h => ⟨h.1, h.2.symm⟩)
                  have CQ := Lib.hid CQ
                  clear CV hux
                  go_wp2_with fail
                  go_quiet ((go_at_call 27; exact CQ.out _))
                  go_wp2_with fail
                  refine push_con (sA := w.heap.size) (A := some ⟨b, o, none⟩) (c := c) (k := k) (V := V) (x := x) rfl rfl rfl rfl rfl rfl rfl rfl rfl rfl rfl (by rfl) (by kernel_rfl) (fun vs => ⟨by kernel_rfl, by kernel_rfl, by kernel_rfl, by kernel_rfl, by kernel_rfl, by kernel_rfl, by kernel_rfl, by kernel_rfl, by kernel_rfl, by kernel_rfl, by kernel_rfl, by kernel_rfl, by kernel_rfl⟩) (HPU.out.below (below_drewN (Below.refl _ _) _)) lO ?_ lA (HROW.out.at' (below_drewN (Below.refl _ _) _)) hlt HX.out (by omega) ?_
                  · exact cA
                  intro vs W9 v hp9
                  have HP9 := Lib.hid hp9
                  clear hp9
                  simp only [fill, Act.put, List.setIfInBounds_toArray, List.set_cons_zero, List.set_cons_succ]
                  go_wp2_with fail
                  go_roundw
                  case rel =>
                    repeat apply Exists.intro
                    exact ⟨⟨k + 1, v, n + 1, by omega, by go_num, by rw [HFT.out, HNL.out]; simp, by rw [HFT.out]; exact HP9.out⟩, rfl⟩
                  case measure => simp [intOf]; omega
              · obtain rfl : k = V.length := by omega
                have HP := HPU.out
                rw [List.take_length] at HP HNL
                obtain ⟨hcon, hown, hkept⟩ := HP
                obtain ⟨Av, cv, rfl, _, _, _⟩ := own_row hown
                have hZ := HZ4.of (hkept.block _ lZ (by omega))
                obtain ⟨z0, z1, z2, z3, z4, z5, z6, z7, z8, z9, z10, z11⟩ := hcon.all
                obtain ⟨y0, y1, y2, y3, y4, y5, y6, y7, y8, y9, y10, y11⟩ := hZ.all
                have fZ := hZ.free
                have HZS := hZ.store g (fun i => P i && Q i) (.slice Av n cv)
                have hKS := storeC_kept W (w.heap.size + 1 + 1) g (fun i => P i && Q i) (.slice Av n cv)
                have hownS := own_lower (a := w.heap.size) (own_kept hown hKS (by omega)) hb6.size
                have hblS : Below w.heap.size w (storeC W (w.heap.size + 1 + 1) g (fun i => P i && Q i) (.slice Av n cv)) := hbW.trans (hKS.below hbW.size (fun j hj => by omega))
                have HHS := Lib.hid HZS; have HOS := Lib.hid hownS; have HBS := Lib.hid hblS
                clear HZS hKS hownS hblS hown hcon hZ hkept
                go_wp2_with fail
                change bodyPost _ _ _ _ _ (storeC W (w.heap.size + 1 + 1) g (fun i => P i && Q i) (.slice Av n cv))
                generalize storeC W (w.heap.size + 1 + 1) g (fun i => P i && Q i) (.slice Av n cv) = W9 at HHS HOS HBS ⊢
                clear z0 z1 z2 z3 z4 z5 z6 z7 z8 z9 z10 z11 y0 y1 y2 y3 y4 y5 y6 y7 y8 y9 y10 y11
                obtain ⟨r0, r1, r2, r3, r4, r5, r6, r7, r8, r9, r10, r11⟩ := HHS.out.all
                have HRF : r = (g, (fun i => P i && Q i), V.filter (U.contains ·), 0) := by rw [← HRES.out, if_neg (by simp), if_neg (by simp), hm, meet_eq HRV'.out]
                rw [HRF]
                refine bodyPost_ret (v := .tuple #[.agg (conC g (fun i => P i && Q i) (.slice Av n cv)), .int .i64 0]) (by simp [results, Try.results10, go_sem, r0, r1, r2, r3, r4, r5, r6, r7, r8, r9, r10, r11]) rfl ⟨_, rfl, ?_, HBS.out⟩
                show W9.ownsRow w.heap.size 3 1 (.slice Av n cv) (V.filter (U.contains ·)).length (intV (V.filter (U.contains ·)))
                rw [← HNL.out]
                exact HOS.out
    · have HR : Hid (r = (0, fun _ => false, [], y)) := Lib.hid (by rw [← HRES.out, if_neg (by simp), if_pos hy])
      obtain ⟨z0, z1, z2, z3, z4, z5, z6, z7, z8, z9, z10, z11⟩ := HZ2.all
      have f := HZ2.free
      have hx0 : ((y : Int) == 0) = false := by rw [beq_eq_false_iff_ne]; omega
      have hx1 : ((y : Int) != 0) = true := by simp; omega
      go_wp2_with fail
      have HE := ends_bad HZ2 hb2 (by omega)
      change bodyPost _ _ _ _ _ (storeC w2 (w.heap.size + 1 + 1) 0 (fun _ => false) (.slice none 0 0))
      obtain ⟨HZ3, hb5⟩ := HE
      generalize storeC w2 (w.heap.size + 1 + 1) 0 (fun _ => false) (.slice none 0 0) = W3 at HZ3 hb5 ⊢
      obtain ⟨r0, r1, r2, r3, r4, r5, r6, r7, r8, r9, r10, r11⟩ := HZ3.all
      rw [HR.out]
      refine bodyPost_ret (v := .tuple #[.agg (conC 0 (fun _ => false) (.slice none 0 0)), .int .i64 (y : Int)]) (by simp [results, Try.results10, go_sem, r0, r1, r2, r3, r4, r5, r6, r7, r8, r9, r10, r11]) rfl ⟨_, rfl, World.ownsRow_nil _ _ _ _, hb5⟩
  · have HR : Hid (r = (0, fun _ => false, [], x)) := Lib.hid (by rw [← HRES.out, if_pos hx])
    obtain ⟨z0, z1, z2, z3, z4, z5, z6, z7, z8, z9, z10, z11⟩ := HZ1.all
    have f := HZ1.free
    have hx0 : ((x : Int) == 0) = false := by rw [beq_eq_false_iff_ne]; omega
    have hx1 : ((x : Int) != 0) = true := by simp; omega
    go_wp2_with fail
    have HE := ends_bad HZ1 hb1 (by omega)
    change bodyPost _ _ _ _ _ (storeC w1 (w.heap.size + 1 + 1) 0 (fun _ => false) (.slice none 0 0))
    obtain ⟨HZ3, hb5⟩ := HE
    generalize storeC w1 (w.heap.size + 1 + 1) 0 (fun _ => false) (.slice none 0 0) = W3 at HZ3 hb5 ⊢
    obtain ⟨r0, r1, r2, r3, r4, r5, r6, r7, r8, r9, r10, r11⟩ := HZ3.all
    rw [HR.out]
    refine bodyPost_ret (v := .tuple #[.agg (conC 0 (fun _ => false) (.slice none 0 0)), .int .i64 (x : Int)]) (by simp [results, Try.results10, go_sem, r0, r1, r2, r3, r4, r5, r6, r7, r8, r9, r10, r11]) rfl ⟨_, rfl, World.ownsRow_nil _ _ _ _, hb5⟩
end Go.Proofs.Ytnjaepdlfnidfaa.GrantI
