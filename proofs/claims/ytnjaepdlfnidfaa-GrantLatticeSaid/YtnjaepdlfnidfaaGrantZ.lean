/- The walks of MayOf, LessOf. -/
import Derived.Test.YtnjaepdlfnidfaaGrantY
import Derived.Deep.QuietTactic
namespace Go.Proofs.Ytnjaepdlfnidfaa.GrantZ
open Go.RowKit Mem Scan GrantP GrantW GrantX GrantY

set_option maxRecDepth 100000 in
set_option maxHeartbeats 4000000 in
theorem mayOf_any (g : Int) (P : Nat → Bool) (A : Option Addr) (c : Nat) (V : List Int) (p v : Int) (w : World) (hr : Row w w.heap.size A (intV V)) (hn : V.length ≤ 4611686018427387904) :
    Calls Try.prog 15 #[conV g P A V.length c, .int .i64 p, .int .i64 v] w (Gives (.bool (may P V p v)) w) := by
  have hb : Below w.heap.size w (w.alloc (conO g P (.slice A V.length c))) := (Below.refl _ _).alloc (Nat.le_refl _) _
  have CV := Lib.hid (hasVendor_any A c V v _ (hr.at' hb) hn)
  have hbc := box_cells w g P (.slice A V.length c)
  have hv11 : (w.alloc (conO g P (.slice A V.length c))).cell? ⟨w.heap.size, 11, none⟩ = some (.slice A V.length c) := by simp [World.cell?_alloc_new]
  have HBC := Lib.hid hbc
  clear hbc
  unfold may mayV
  generalize hres : (mayP P p && (v == 0 || V.contains v)) = res
  have HRES := Lib.hid hres
  clear hres
  go_enter Try.func15, Try.ntmps15
  go_wp2_with fail
  change Code.wp _ _ _ _ (w.alloc (conO g P (.slice A V.length c)))
  generalize w.alloc (conO g P (.slice A V.length c)) = W0 at hb CV HBC hv11 ⊢
  have h0 := mayTo_zero P p
  go_loop [7, 8] (fun r i => ∃ k : Nat, k ≤ 10 ∧ i = .int .i64 k ∧ r = .bool (mayTo P p k)) (fun _ i => 10 - (intOf i).toNat)
  case atStart => exact ⟨0, by omega, rfl, by rw [h0]⟩
  case round =>
    obtain ⟨k, hk, rfl, rfl⟩ := hrel
    have hs := mayTo_succ P p k
    have HS := Lib.hid hs
    clear hs h0
    by_cases hlt : k < 10
    · have d0 : (k : Int) < 10 := by omega
      have hc := HBC.out k hlt
      cases hm : mayTo P p k with
      | true =>
        rw [hm] at HS
        go_wp2_with fail
        go_round
        case rel => exact ⟨k + 1, by omega, by go_num, by rw [HS.out]; rfl⟩
        case measure => simp [intOf]; omega
      | false =>
        rw [hm] at HS
        by_cases e : p = (k : Int) + 1
        · have e1 : (p == (k : Int) + 1) = true := by simpa using e
          rw [e1] at HS
          have HE := Lib.hid e
          clear e
          cases hp : P k with
          | true =>
            rw [hp] at hc HS
            go_wp2_with fail
            go_round
            case rel => exact ⟨k + 1, by omega, by go_num, by rw [HS.out]; rfl⟩
            case measure => simp [intOf]; omega
          | false =>
            rw [hp] at hc HS
            go_wp2_with fail
            go_round
            case rel => exact ⟨k + 1, by omega, by go_num, by rw [HS.out]; rfl⟩
            case measure => simp [intOf]; omega
        · have e1 : (p == (k : Int) + 1) = false := by simpa using e
          rw [e1] at HS
          clear e hc
          go_wp2_with fail
          go_round
          case rel => exact ⟨k + 1, by omega, by go_num, by rw [HS.out]; rfl⟩
          case measure => simp [intOf]; omega
    · obtain rfl : k = 10 := by omega
      have e10 : mayTo P p 10 = mayP P p := rfl
      have HR := HRES.out
      rw [← e10] at HR
      cases hm : mayTo P p 10 with
      | false =>
        rw [hm] at HR
        have HR := Lib.hid HR
        clear hm e10
        go_wp2_with fail
        go_ret
        exact ⟨by rw [← HR.out]; rfl, hb⟩
      | true =>
        rw [hm] at HR
        clear hm e10
        by_cases v0 : v = 0
        · have e3 : (v == 0) = true := by simpa using v0
          rw [e3] at HR
          have HR := Lib.hid HR
          clear v0
          go_wp2_with fail
          go_ret
          exact ⟨by rw [← HR.out]; rfl, hb⟩
        · have e3 : (v == 0) = false := by simpa using v0
          rw [e3, Bool.false_or, Bool.true_and] at HR
          rw [HR] at CV
          clear v0 HR
          go_wp2_with fail
          with_reducible refine CV.out.mono ?_
          rintro e w1 ⟨rfl, rfl⟩
          go_wp2_with fail
          go_ret
          exact ⟨by simp, hb⟩
theorem all_take (V U : List Int) (k : Nat) (h : k < V.length) : (V.take (k + 1)).all (U.contains ·) = ((V.take k).all (U.contains ·) && U.contains (V.getD k 0)) := by
  rw [takeI V k h, List.all_append]; simp
theorem all_false (V U : List Int) (k : Nat) (h : k < V.length) (hx : U.contains (V.getD k 0) = false) : V.all (U.contains ·) = false := by
  rw [List.all_eq_false]
  refine ⟨V.getD k 0, ?_, by rw [hx]; decide⟩
  rw [List.getD_eq_getElem?_getD, List.getElem?_eq_getElem h]
  exact List.getElem_mem h
set_option maxRecDepth 100000 in
set_option maxHeartbeats 4000000 in
theorem lessOf_any (g g' : Int) (P Q : Nat → Bool) (A : Option Addr) (c : Nat) (V : List Int) (A' : Option Addr) (c' : Nat) (U : List Int) (w : World) (hr : Row w w.heap.size A (intV V)) (hr' : Row w w.heap.size A' (intV U)) (hn : V.length ≤ 4611686018427387904) (hn' : U.length ≤ 4611686018427387904) :
    Calls Try.prog 17 #[conV g P A V.length c, conV g' Q A' U.length c'] w (Gives (.bool (less P Q V U)) w) := by
  have hb1 : Below w.heap.size w (w.alloc (conO g P (.slice A V.length c))) := (Below.refl _ _).alloc (Nat.le_refl _) _
  have hb : Below w.heap.size w ((w.alloc (conO g P (.slice A V.length c))).alloc (conO g' Q (.slice A' U.length c'))) := hb1.alloc (by simp) _
  have hb2 : Below (w.alloc (conO g P (.slice A V.length c))).heap.size (w.alloc (conO g P (.slice A V.length c))) ((w.alloc (conO g P (.slice A V.length c))).alloc (conO g' Q (.slice A' U.length c'))) := (Below.refl _ _).alloc (Nat.le_refl _) _
  have p1 : ∀ i, i < 10 → ((w.alloc (conO g P (.slice A V.length c))).alloc (conO g' Q (.slice A' U.length c'))).cell? ⟨w.heap.size, 1 + i, none⟩ = some (.bool (P i)) := fun i hi => (hb2.cell (p := ⟨w.heap.size, 1 + i, none⟩) (by simp)).trans (box_cells w g P (.slice A V.length c) i hi)
  have p2 : ∀ i, i < 10 → ((w.alloc (conO g P (.slice A V.length c))).alloc (conO g' Q (.slice A' U.length c'))).cell? ⟨w.heap.size + 1, 1 + i, none⟩ = some (.bool (Q i)) := fun i hi => by
    have := box_cells (w.alloc (conO g P (.slice A V.length c))) g' Q (.slice A' U.length c') i hi
    simpa using this
  have v1 : ((w.alloc (conO g P (.slice A V.length c))).alloc (conO g' Q (.slice A' U.length c'))).cell? ⟨w.heap.size, 11, none⟩ = some (.slice A V.length c) := (hb2.cell (p := ⟨w.heap.size, 11, none⟩) (by simp)).trans (by simp [World.cell?_alloc_new])
  have v2 : ((w.alloc (conO g P (.slice A V.length c))).alloc (conO g' Q (.slice A' U.length c'))).cell? ⟨w.heap.size + 1, 11, none⟩ = some (.slice A' U.length c') := by
    have h := heap_alloc_new (w.alloc (conO g P (.slice A V.length c))) (conO g' Q (.slice A' U.length c'))
    rw [show (w.alloc (conO g P (.slice A V.length c))).heap.size = w.heap.size + 1 from by simp] at h
    simp only [World.cell?, h]; rfl
  have hs0 : w.heap.size < ((w.alloc (conO g P (.slice A V.length c))).alloc (conO g' Q (.slice A' U.length c'))).heap.size := by simp; omega
  have hs1 : w.heap.size + 1 < ((w.alloc (conO g P (.slice A V.length c))).alloc (conO g' Q (.slice A' U.length c'))).heap.size := by simp
  have P1 := Lib.hid p1; have P2 := Lib.hid p2; clear p1 p2 hb1 hb2
  generalize hres : less P Q V U = res
  have HRES := Lib.hid hres
  clear hres
  go_enter Try.func17, Try.ntmps17
  go_wp2_with fail
  change Code.wp _ _ _ _ ((w.alloc (conO g P (.slice A V.length c))).alloc (conO g' Q (.slice A' U.length c')))
  generalize (w.alloc (conO g P (.slice A V.length c))).alloc (conO g' Q (.slice A' U.length c')) = W0 at hb P1 P2 v1 v2 hs0 hs1 ⊢
  go_loop [5] (fun i => ∃ k : Nat, k ≤ 10 ∧ i = .int .i64 k ∧ ∀ i, i < k → P i = true → Q i = true) (fun i => 10 - (intOf i).toNat)
  case atStart => exact ⟨0, by omega, rfl, fun i hi => absurd hi (Nat.not_lt_zero _)⟩
  case round =>
    obtain ⟨k, hk, rfl, hall⟩ := hrel
    have HALL := Lib.hid hall
    clear hall
    by_cases hlt : k < 10
    · have d0 : (k : Int) < 10 := by omega
      have c1 := P1.out k hlt
      have c2 := P2.out k hlt
      have hbad := lessP_false (P := P) (Q := Q) hlt
      have hgo : (P k = true → Q k = true) → ∀ i, i < k + 1 → P i = true → Q i = true := fun h i hi => by
        by_cases e : i = k
        · subst e; exact h
        · exact HALL.out i (by omega)
      cases hp : P k with
      | false =>
        rw [hp] at c1 hgo
        have HG := Lib.hid (hgo (fun h => by cases h))
        clear hgo hbad c2 hp
        go_wp2_with fail
        go_round
        case rel => exact ⟨k + 1, by omega, by go_num, HG.out⟩
        case measure => simp [intOf]; omega
      | true =>
        rw [hp] at c1 hgo
        cases hq : Q k with
        | true =>
          rw [hq] at c2 hgo
          have HG := Lib.hid (hgo (fun _ => rfl))
          clear hgo hbad hp hq
          go_wp2_with fail
          go_round
          case rel => exact ⟨k + 1, by omega, by go_num, HG.out⟩
          case measure => simp [intOf]; omega
        | false =>
          rw [hq] at c2
          have hl := hbad hp hq
          have HR : Hid (res = false) := Lib.hid (by rw [← HRES.out]; unfold less; rw [hl]; rfl)
          clear hgo hbad hp hq hl
          go_wp2_with fail
          go_ret
          exact ⟨by rw [HR.out]; rfl, hb⟩
    · obtain rfl : k = 10 := by omega
      have hl := lessP_true HALL.out
      have HRV : Hid (V.all (U.contains ·) = res) := Lib.hid (by rw [← HRES.out]; unfold less; rw [hl]; rfl)
      clear hl
      go_wp2_with fail
      go_loopw [6] (fun i wr => ∃ k : Nat, k ≤ V.length ∧ i = .int .i64 k ∧ (V.take k).all (U.contains ·) = true ∧ Below W0.heap.size W0 wr) (fun i _ => V.length - (intOf i).toNat)
      case atStart => exact ⟨0, Nat.zero_le _, rfl, rfl, Below.refl _ _⟩
      case round =>
        obtain ⟨k, hk, rfl, hall, hbr⟩ := hrel
        have HA := Lib.hid hall
        clear hall
        have hbq : Below w.heap.size w wr := below_cat hb hbr
        have v1 := (hbr.cell (p := ⟨w.heap.size, 11, none⟩) hs0).trans v1
        have v2 := (hbr.cell (p := ⟨w.heap.size + 1, 11, none⟩) hs1).trans v2
        by_cases hlt : k < V.length
        · obtain ⟨b, o, rfl, hbB, hcs⟩ := ints_open (hr.below hbq) (by omega)
          have c0 := hcs k hlt
          have hat := all_take V U k hlt
          have haf := all_false V U k hlt
          have i1 : (0 : Int) ≤ (k : Int) := by omega
          have i2 : (k : Int) < (V.length : Int) := by omega
          clear hcs
          generalize V.getD k 0 = x at c0 hat haf
          have CV := fun n => hasVendor_any A' c' U x (wr.drewN n) (hr'.at' (below_drewN hbq n)) hn'
          cases hx : U.contains x with
          | true =>
            rw [hx] at hat CV
            have CQ : ∀ n, Calls Try.prog 27 #[.slice A' U.length c', .int .i64 x] (wr.drewN n) fun e w'' => e = .returned (.bool true) ∧ ∃ m, w'' = wr.drewN m := fun n => Calls.quiet_of_same ((CV n).mono fun _ _ h => ⟨h.1, h.2.symm⟩)
            have CQ := Lib.hid CQ
            clear CV
            have HN : Hid ((V.take (k + 1)).all (U.contains ·) = true) := Lib.hid (by rw [hat, HA.out]; rfl)
            clear hat haf hx
            go_wp2_with fail
            go_quiet ((go_at_call 27; exact CQ.out _))
            go_wp2_with fail
            go_roundw
            case rel => exact ⟨k + 1, by omega, by go_num, HN.out, below_drewN hbr _⟩
            case measure => simp [intOf]; omega
          | false =>
            rw [hx] at CV
            have CQ : ∀ n, Calls Try.prog 27 #[.slice A' U.length c', .int .i64 x] (wr.drewN n) fun e w'' => e = .returned (.bool false) ∧ ∃ m, w'' = wr.drewN m := fun n => Calls.quiet_of_same ((CV n).mono fun _ _ h => ⟨h.1, h.2.symm⟩)
            have CQ := Lib.hid CQ
            clear CV
            have HR := Lib.hid (HRV.out.symm.trans (haf hx))
            clear hat haf hx
            go_wp2_with fail
            go_quiet ((go_at_call 27; exact CQ.out _))
            go_wp2_with fail
            go_ret
            exact ⟨by rw [HR.out]; rfl, below_drewN hbq _⟩
        · obtain rfl : k = V.length := by omega
          have h1 := HA.out
          rw [List.take_length] at h1
          have HR := Lib.hid (HRV.out.symm.trans h1)
          clear h1
          go_wp2_with fail
          go_ret
          exact ⟨by rw [HR.out]; rfl, hbq⟩
end Go.Proofs.Ytnjaepdlfnidfaa.GrantZ
