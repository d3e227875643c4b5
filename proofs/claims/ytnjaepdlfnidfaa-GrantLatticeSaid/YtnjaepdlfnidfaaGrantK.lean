/- The walk of DropOf. -/
import Derived.Test.YtnjaepdlfnidfaaGrantI
namespace Go.Proofs.Ytnjaepdlfnidfaa.GrantK
open Go.RowKit Go.Maps Mem Scan GrantP GrantW GrantX GrantY GrantZ GrantM GrantB GrantC GrantD GrantE GrantH GrantI Facts Glue

set_option maxRecDepth 100000 in
set_option maxHeartbeats 16000000 in
theorem dropOf_any (g : Int) (P : Nat → Bool) (A : Option Addr) (c : Nat) (V : List Int) (p v now : Int) (w : World) (hr : Row w w.heap.size A (intV V)) (hn : V.length ≤ 1152921504606846976) :
    Calls Try.prog 12 #[conV g P A V.length c, .int .i64 p, .int .i64 v, .int .i64 now] w (CPostR (dropF g P V p v now) w) := by
  have CC := Lib.hid (fun w' h => refCheck_any g P A c V w' h (by omega))
  obtain ⟨r, hres⟩ : ∃ r, dropF g P V p v now = r := ⟨_, rfl⟩
  rw [hres]
  unfold dropF at hres
  have hlV : check g V = 0 → V.length ≤ 40 := fun h => right_len (right_of (check_zero h).2)
  generalize check g V = x at CC hres hlV
  have HLV := Lib.hid hlV
  have HRES := Lib.hid hres
  clear hres hlV
  go_enter Try.func12, Try.ntmps12
  have HA := (ConAt.new w g P (.slice A V.length c)).alloc (.cells (conC 0 (fun _ => false) (.slice none 0 0)) 25)
  have HZ := ConAt.new (w.alloc (.cells (conC g P (.slice A V.length c)) 25)) 0 (fun _ => false) (.slice none 0 0)
  have hb : Below w.heap.size w ((w.alloc (.cells (conC g P (.slice A V.length c)) 25)).alloc (.cells (conC 0 (fun _ => false) (.slice none 0 0)) 25)) := ((Below.refl _ w).alloc (Nat.le_refl _) _).alloc (by simp) _
  rw [World.size_alloc] at HZ
  go_wp2_with fail
  with_reducible refine (CC.out _ (hr.at' hb)).mono ?_
  rintro e w1 ⟨rfl, b1⟩
  have HA1 := HA.below b1
  have HZ1 := HZ.below b1
  have hb1 := below_cat hb b1
  clear HA HZ hb b1 CC
  by_cases hx : x = 0
  · subst hx
    have lV := HLV.out (by simp)
    clear HLV
    by_cases hbad : p < 0 ∨ 10 < p ∨ v < 0 ∨ 40 < v
    · have HR : Hid (r = (0, fun _ => false, [], 3)) := Lib.hid (by rw [← HRES.out, if_neg (by simp), if_pos hbad])
      by_cases p1 : p < 0
      · have d1 : decide (p < 0) = true := decide_eq_true p1
        clear hbad
        obtain ⟨z0, z1, z2, z3, z4, z5, z6, z7, z8, z9, z10, z11⟩ := HZ1.all
        have f := HZ1.free
        go_wp2_with fail
        have HE := ends_bad HZ1 hb1 (by omega)
        change bodyPost _ _ _ _ _ (storeC w1 (w.heap.size + 1) 0 (fun _ => false) (.slice none 0 0))
        obtain ⟨HZ3, hb5⟩ := HE
        generalize storeC w1 (w.heap.size + 1) 0 (fun _ => false) (.slice none 0 0) = W3 at HZ3 hb5 ⊢
        obtain ⟨r0, r1, r2, r3, r4, r5, r6, r7, r8, r9, r10, r11⟩ := HZ3.all
        rw [HR.out]
        refine bodyPost_ret (v := .tuple #[.agg (conC 0 (fun _ => false) (.slice none 0 0)), .int .i64 3]) (by simp [results, Try.results12, go_sem, r0, r1, r2, r3, r4, r5, r6, r7, r8, r9, r10, r11]) rfl ⟨_, rfl, World.ownsRow_nil _ _ _ _, hb5⟩
      · have d1 : decide (p < 0) = false := decide_eq_false p1
        by_cases p2 : 10 < p
        · have d2 : decide (10 < p) = true := decide_eq_true p2
          clear hbad
          obtain ⟨z0, z1, z2, z3, z4, z5, z6, z7, z8, z9, z10, z11⟩ := HZ1.all
          have f := HZ1.free
          go_wp2_with fail
          have HE := ends_bad HZ1 hb1 (by omega)
          change bodyPost _ _ _ _ _ (storeC w1 (w.heap.size + 1) 0 (fun _ => false) (.slice none 0 0))
          obtain ⟨HZ3, hb5⟩ := HE
          generalize storeC w1 (w.heap.size + 1) 0 (fun _ => false) (.slice none 0 0) = W3 at HZ3 hb5 ⊢
          obtain ⟨r0, r1, r2, r3, r4, r5, r6, r7, r8, r9, r10, r11⟩ := HZ3.all
          rw [HR.out]
          refine bodyPost_ret (v := .tuple #[.agg (conC 0 (fun _ => false) (.slice none 0 0)), .int .i64 3]) (by simp [results, Try.results12, go_sem, r0, r1, r2, r3, r4, r5, r6, r7, r8, r9, r10, r11]) rfl ⟨_, rfl, World.ownsRow_nil _ _ _ _, hb5⟩
        · have d2 : decide (10 < p) = false := decide_eq_false p2
          by_cases v1 : v < 0
          · have d3 : decide (v < 0) = true := decide_eq_true v1
            clear hbad
            obtain ⟨z0, z1, z2, z3, z4, z5, z6, z7, z8, z9, z10, z11⟩ := HZ1.all
            have f := HZ1.free
            go_wp2_with fail
            have HE := ends_bad HZ1 hb1 (by omega)
            change bodyPost _ _ _ _ _ (storeC w1 (w.heap.size + 1) 0 (fun _ => false) (.slice none 0 0))
            obtain ⟨HZ3, hb5⟩ := HE
            generalize storeC w1 (w.heap.size + 1) 0 (fun _ => false) (.slice none 0 0) = W3 at HZ3 hb5 ⊢
            obtain ⟨r0, r1, r2, r3, r4, r5, r6, r7, r8, r9, r10, r11⟩ := HZ3.all
            rw [HR.out]
            refine bodyPost_ret (v := .tuple #[.agg (conC 0 (fun _ => false) (.slice none 0 0)), .int .i64 3]) (by simp [results, Try.results12, go_sem, r0, r1, r2, r3, r4, r5, r6, r7, r8, r9, r10, r11]) rfl ⟨_, rfl, World.ownsRow_nil _ _ _ _, hb5⟩
          · have d3 : decide (v < 0) = false := decide_eq_false v1
            have v2 : 40 < v := by omega
            have d4 : decide (40 < v) = true := decide_eq_true v2
            clear hbad
            obtain ⟨z0, z1, z2, z3, z4, z5, z6, z7, z8, z9, z10, z11⟩ := HZ1.all
            have f := HZ1.free
            go_wp2_with fail
            have HE := ends_bad HZ1 hb1 (by omega)
            change bodyPost _ _ _ _ _ (storeC w1 (w.heap.size + 1) 0 (fun _ => false) (.slice none 0 0))
            obtain ⟨HZ3, hb5⟩ := HE
            generalize storeC w1 (w.heap.size + 1) 0 (fun _ => false) (.slice none 0 0) = W3 at HZ3 hb5 ⊢
            obtain ⟨r0, r1, r2, r3, r4, r5, r6, r7, r8, r9, r10, r11⟩ := HZ3.all
            rw [HR.out]
            refine bodyPost_ret (v := .tuple #[.agg (conC 0 (fun _ => false) (.slice none 0 0)), .int .i64 3]) (by simp [results, Try.results12, go_sem, r0, r1, r2, r3, r4, r5, r6, r7, r8, r9, r10, r11]) rfl ⟨_, rfl, World.ownsRow_nil _ _ _ _, hb5⟩
    · have d1 : decide (p < 0) = false := decide_eq_false (by omega)
      have d2 : decide (10 < p) = false := decide_eq_false (by omega)
      have d3 : decide (v < 0) = false := decide_eq_false (by omega)
      have d4 : decide (40 < v) = false := decide_eq_false (by omega)
      have cg := HA1.at' 0 _ rfl
      by_cases hbad2 : now < g ∨ 68719476735 < now
      · have HR : Hid (r = (0, fun _ => false, [], 4)) := Lib.hid (by rw [← HRES.out, if_neg (by simp), if_neg hbad, if_pos hbad2])
        clear hbad
        by_cases n1 : now < g
        · have d5 : decide (now < g) = true := decide_eq_true n1
          clear hbad2
          obtain ⟨z0, z1, z2, z3, z4, z5, z6, z7, z8, z9, z10, z11⟩ := HZ1.all
          have f := HZ1.free
          go_wp2_with fail
          have HE := ends_bad HZ1 hb1 (by omega)
          change bodyPost _ _ _ _ _ (storeC w1 (w.heap.size + 1) 0 (fun _ => false) (.slice none 0 0))
          obtain ⟨HZ3, hb5⟩ := HE
          generalize storeC w1 (w.heap.size + 1) 0 (fun _ => false) (.slice none 0 0) = W3 at HZ3 hb5 ⊢
          obtain ⟨r0, r1, r2, r3, r4, r5, r6, r7, r8, r9, r10, r11⟩ := HZ3.all
          rw [HR.out]
          refine bodyPost_ret (v := .tuple #[.agg (conC 0 (fun _ => false) (.slice none 0 0)), .int .i64 4]) (by simp [results, Try.results12, go_sem, r0, r1, r2, r3, r4, r5, r6, r7, r8, r9, r10, r11]) rfl ⟨_, rfl, World.ownsRow_nil _ _ _ _, hb5⟩
        · have d5 : decide (now < g) = false := decide_eq_false n1
          have d6 : decide (68719476735 < now) = true := decide_eq_true (by omega)
          clear hbad2
          obtain ⟨z0, z1, z2, z3, z4, z5, z6, z7, z8, z9, z10, z11⟩ := HZ1.all
          have f := HZ1.free
          go_wp2_with fail
          have HE := ends_bad HZ1 hb1 (by omega)
          change bodyPost _ _ _ _ _ (storeC w1 (w.heap.size + 1) 0 (fun _ => false) (.slice none 0 0))
          obtain ⟨HZ3, hb5⟩ := HE
          generalize storeC w1 (w.heap.size + 1) 0 (fun _ => false) (.slice none 0 0) = W3 at HZ3 hb5 ⊢
          obtain ⟨r0, r1, r2, r3, r4, r5, r6, r7, r8, r9, r10, r11⟩ := HZ3.all
          rw [HR.out]
          refine bodyPost_ret (v := .tuple #[.agg (conC 0 (fun _ => false) (.slice none 0 0)), .int .i64 4]) (by simp [results, Try.results12, go_sem, r0, r1, r2, r3, r4, r5, r6, r7, r8, r9, r10, r11]) rfl ⟨_, rfl, World.ownsRow_nil _ _ _ _, hb5⟩
      · have HR : Hid (r = (now, fun i => P i && !((i : Int) + 1 == p), V.filter (· != v), 0)) := Lib.hid (by rw [← HRES.out, if_neg (by simp), if_neg hbad, if_neg hbad2])
        have d5 : decide (now < g) = false := decide_eq_false (by omega)
        have d6 : decide (68719476735 < now) = false := decide_eq_false (by omega)
        clear hbad hbad2
        go_wp2_with fail
        change Code.wp _ _ _ _ (w1.alloc (.cells (conC now (fun _ => false) (.slice none 0 0)) 25))
        have HO := ConAt.new w1 now (fun _ => false) (.slice none 0 0)
        have hb3 := below_new hb1 (.cells (conC now (fun _ => false) (.slice none 0 0)) 25)
        have hlA := HA1.lt
        have hlZ := HZ1.lt
        have HA3 := HA1.alloc (.cells (conC now (fun _ => false) (.slice none 0 0)) 25)
        have HZ3 := HZ1.alloc (.cells (conC now (fun _ => false) (.slice none 0 0)) 25)
        have hzO : w1.heap.size < (w1.alloc (.cells (conC now (fun _ => false) (.slice none 0 0)) 25)).heap.size := by simp
        generalize hO : w1.heap.size = O at HO hlA hlZ hzO ⊢
        generalize w1.alloc (.cells (conC now (fun _ => false) (.slice none 0 0)) 25) = W3 at HO hb3 HA3 HZ3 hzO ⊢
        clear HA1 HZ1 hb1 hO
        go_loopw [12] (fun i wr => ∃ (k : Nat) (R : Nat → Bool), k ≤ 10 ∧ i = .int .i64 k ∧ ConAt wr O now R (.slice none 0 0) ∧ (∀ i, i < 10 → R i = if i < k then P i && !((i : Int) + 1 == p) else false) ∧ Kept (· ≠ O) W3 wr) (fun i _ => 10 - (intOf i).toNat)
        case atStart => exact ⟨0, fun _ => false, by omega, rfl, HO, fun i hi => by simp, Kept.refl _ _⟩
        case round =>
          obtain ⟨k, R, hk10, rfl, hcon, hR, hkept⟩ := hrel
          have HRR := Lib.hid hR
          clear hR HO
          by_cases hlt : k < 10
          · have d0 : (k : Int) < 10 := by omega
            have hP := (HA3.of (hkept.block _ HA3.lt (by omega))).b k hlt
            have hf := hcon.free (1 + k)
            have hold := hcon.b k hlt
            have hset := fun b => hcon.setB k hlt b
            have HSET := Lib.hid hset
            have hnew : Hid (∀ b, b = (P k && !((k : Int) + 1 == p)) → ∀ i, i < 10 → upd R k b i = if i < k + 1 then P i && !((i : Int) + 1 == p) else false) := Lib.hid (by
              intro b hb i hi
              unfold upd
              by_cases e : i = k
              · subst e; rw [if_pos rfl, if_pos (by omega), hb]
              · rw [if_neg e, HRR.out i hi]
                by_cases h2 : i < k
                · rw [if_pos h2, if_pos (by omega)]
                · rw [if_neg h2, if_neg (by omega)])
            clear hset hcon
            cases hp : P k with
            | false =>
              rw [hp] at hP
              have HN := Lib.hid (hnew.out false (by rw [hp]; rfl))
              clear hnew hp
              go_wp2_with fail
              go_roundw
              case rel => exact ⟨k + 1, upd R k false, by omega, by go_num, HSET.out false, HN.out, hkept.setCell (fun h => absurd rfl h) _⟩
              case measure => simp [intOf]; omega
            | true =>
              rw [hp] at hP
              by_cases e : (k : Int) + 1 = p
              · have e1 : ((k : Int) + 1 != p) = false := by simpa using e
                have HN := Lib.hid (hnew.out false (by rw [hp]; simp [e]))
                clear hnew hp e
                go_wp2_with fail
                go_roundw
                case rel => exact ⟨k + 1, upd R k false, by omega, by go_num, HSET.out false, HN.out, hkept.setCell (fun h => absurd rfl h) _⟩
                case measure => simp [intOf]; omega
              · have e1 : ((k : Int) + 1 != p) = true := by simpa using e
                have HN := Lib.hid (hnew.out true (by rw [hp]; simp [e]))
                clear hnew hp e
                go_wp2_with fail
                go_roundw
                case rel => exact ⟨k + 1, upd R k true, by omega, by go_num, HSET.out true, HN.out, hkept.setCell (fun h => absurd rfl h) _⟩
                case measure => simp [intOf]; omega
          · obtain rfl : k = 10 := by omega
            go_wp2_with fail
            have HO4 : ConAt wr O now (fun i => P i && !((i : Int) + 1 == p)) (.slice none 0 0) := hcon.congr (fun i hi => by rw [HRR.out i hi, if_pos hi])
            have HA4 := HA3.of (hkept.block _ HA3.lt (by omega))
            have HZ4 := HZ3.of (hkept.block _ HZ3.lt (by omega))
            have hb6 : Below w.heap.size w wr := hb3.trans (hkept.below hb3.size (fun j hj => by omega))
            have lA := HA4.lt
            have lZ := HZ4.lt
            have lO := HO4.lt
            clear hcon HRR hkept HA3 HZ3 hb3
            have hrow0 : wr.ownsRow wr.heap.size 3 1 (.slice none 0 0) 0 (intV ((V.take 0).filter (· != v))) := World.ownsRow_nil _ _ _ _
            generalize wr = W4 at HO4 HA4 HZ4 hb6 lA lZ lO hrow0 ⊢
            go_loopw [13] (fun i W => ∃ (k : Nat) (vv : Value) (n : Nat), k ≤ V.length ∧ i = .int .i64 k ∧ n = ((V.take k).filter (· != v)).length ∧ Pushed W4 O now (fun i => P i && !((i : Int) + 1 == p)) vv vv n ((V.take k).filter (· != v)) W) (fun i _ => V.length - (intOf i).toNat)
            case atStart => exact ⟨0, _, _, Nat.zero_le _, rfl, rfl, HO4, hrow0, Kept.refl _ _⟩
            case round =>
              clear hrow0 HO4
              rename World => W
              obtain ⟨k, vv, n, hk, rfl, hnl, hpush⟩ := hrel
              have hn40 : n ≤ 40 := by
                rw [hnl]; exact Nat.le_trans (List.length_filter_le _ _) (by rw [List.length_take]; omega)
              have HNL := Lib.hid hnl
              have hkept := hpush.2.2
              have HPU := Lib.hid hpush
              have cA := (HA4.of (hkept.block _ lA (by omega))).at' 11 _ rfl
              have hbW : Below w.heap.size w W := hb6.trans (hkept.below hb6.size (fun j hj => by omega))
              clear hnl hpush hkept
              by_cases hlt : k < V.length
              · have hrV := hr.below hbW
                obtain ⟨b, o, hAe, hbB, hcs⟩ := ints_open hrV (by omega)
                have c0 := hcs k hlt
                have HFT := Lib.hid (filter_take V (· != v) k hlt)
                have i1 : (0 : Int) ≤ (k : Int) := by omega
                have i2 : (k : Int) < (V.length : Int) := by omega
                have HROW := Lib.hid (hr.at' hbW)
                clear hcs
                obtain ⟨x, hx⟩ : ∃ x, V.getD k 0 = x := ⟨_, rfl⟩
                rw [hx] at c0 HFT
                have HX := Lib.hid hx
                clear hx
                subst hAe
                cases hux : (x != v) with
                | false =>
                  rw [hux] at HFT
                  go_wp2_with fail
                  go_roundw
                  case rel =>
                    exact ⟨k + 1, vv, n, by omega, by go_num, by rw [HFT.out, HNL.out]; simp, by rw [HFT.out]; simpa using HPU.out⟩
                  case measure => simp [intOf]; omega
                | true =>
                  rw [hux] at HFT
                  go_wp2_with fail
                  refine push_con (sA := w.heap.size) (A := some ⟨b, o, none⟩) (c := c) (k := k) (V := V) (x := x) rfl rfl rfl rfl rfl rfl rfl rfl rfl rfl rfl (by rfl) (by kernel_rfl) (fun vs => ⟨by kernel_rfl, by kernel_rfl, by kernel_rfl, by kernel_rfl, by kernel_rfl, by kernel_rfl, by kernel_rfl, by kernel_rfl, by kernel_rfl, by kernel_rfl, by kernel_rfl, by kernel_rfl, by kernel_rfl⟩) HPU.out lO ?_ lA HROW.out hlt HX.out (by omega) ?_
                  · exact cA
                  intro vs W9 v' hp9
                  have HP9 := Lib.hid hp9
                  clear hp9
                  simp only [fill, Act.put, List.setIfInBounds_toArray, List.set_cons_zero, List.set_cons_succ]
                  go_wp2_with fail
                  go_roundw
                  case rel =>
                    repeat apply Exists.intro
                    exact ⟨⟨k + 1, v', n + 1, by omega, by go_num, by rw [HFT.out, HNL.out]; simp, by rw [HFT.out]; exact HP9.out⟩, rfl⟩
                  case measure => simp [intOf]; omega
              · obtain rfl : k = V.length := by omega
                have HP := HPU.out
                rw [List.take_length] at HP HNL
                obtain ⟨hcon, hown, hkept⟩ := HP
                obtain ⟨Av, cv, rfl, _, _, _⟩ := own_row hown
                have hZ := HZ4.of (hkept.block _ lZ (by omega))
                obtain ⟨z0, z1, z2, z3, z4, z5, z6, z7, z8, z9, z10, z11⟩ := hcon.all
                obtain ⟨y0, y1, y2, y3, y4, y5, y6, y7, y8, y9, y10, y11⟩ := hZ.all
                have fZ := hZ.free
                have HZS := hZ.store now (fun i => P i && !((i : Int) + 1 == p)) (.slice Av n cv)
                have hKS := storeC_kept W (w.heap.size + 1) now (fun i => P i && !((i : Int) + 1 == p)) (.slice Av n cv)
                have hownS := own_lower (a := w.heap.size) (own_kept hown hKS (by omega)) hb6.size
                have hblS : Below w.heap.size w (storeC W (w.heap.size + 1) now (fun i => P i && !((i : Int) + 1 == p)) (.slice Av n cv)) := hbW.trans (hKS.below hbW.size (fun j hj => by omega))
                have HHS := Lib.hid HZS; have HOS := Lib.hid hownS; have HBS := Lib.hid hblS
                clear HZS hKS hownS hblS hown hcon hZ hkept
                go_wp2_with fail
                change bodyPost _ _ _ _ _ (storeC W (w.heap.size + 1) now (fun i => P i && !((i : Int) + 1 == p)) (.slice Av n cv))
                generalize storeC W (w.heap.size + 1) now (fun i => P i && !((i : Int) + 1 == p)) (.slice Av n cv) = W9 at HHS HOS HBS ⊢
                clear z0 z1 z2 z3 z4 z5 z6 z7 z8 z9 z10 z11 y0 y1 y2 y3 y4 y5 y6 y7 y8 y9 y10 y11
                obtain ⟨r0, r1, r2, r3, r4, r5, r6, r7, r8, r9, r10, r11⟩ := HHS.out.all
                rw [HR.out]
                refine bodyPost_ret (v := .tuple #[.agg (conC now (fun i => P i && !((i : Int) + 1 == p)) (.slice Av n cv)), .int .i64 0]) (by simp [results, Try.results12, go_sem, r0, r1, r2, r3, r4, r5, r6, r7, r8, r9, r10, r11]) rfl ⟨_, rfl, ?_, HBS.out⟩
                show W9.ownsRow w.heap.size 3 1 (.slice Av n cv) (V.filter (· != v)).length (intV (V.filter (· != v)))
                rw [← HNL.out]
                exact HOS.out
  · have HR : Hid (r = (0, fun _ => false, [], x)) := Lib.hid (by rw [← HRES.out, if_pos hx])
    have hx0 : ((x : Int) == 0) = false := by rw [beq_eq_false_iff_ne]; omega
    have hx1 : ((x : Int) != 0) = true := by simp; omega
    obtain ⟨z0, z1, z2, z3, z4, z5, z6, z7, z8, z9, z10, z11⟩ := HZ1.all
    have f := HZ1.free
    go_wp2_with fail
    have HE := ends_bad HZ1 hb1 (by omega)
    change bodyPost _ _ _ _ _ (storeC w1 (w.heap.size + 1) 0 (fun _ => false) (.slice none 0 0))
    obtain ⟨HZ3, hb5⟩ := HE
    generalize storeC w1 (w.heap.size + 1) 0 (fun _ => false) (.slice none 0 0) = W3 at HZ3 hb5 ⊢
    obtain ⟨r0, r1, r2, r3, r4, r5, r6, r7, r8, r9, r10, r11⟩ := HZ3.all
    rw [HR.out]
    refine bodyPost_ret (v := .tuple #[.agg (conC 0 (fun _ => false) (.slice none 0 0)), .int .i64 (x : Int)]) (by simp [results, Try.results12, go_sem, r0, r1, r2, r3, r4, r5, r6, r7, r8, r9, r10, r11]) rfl ⟨_, rfl, World.ownsRow_nil _ _ _ _, hb5⟩
end Go.Proofs.Ytnjaepdlfnidfaa.GrantK
