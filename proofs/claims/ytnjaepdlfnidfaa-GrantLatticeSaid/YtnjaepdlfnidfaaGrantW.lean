/- The walks of consent.Check, of the document's check, of what compares. -/
import Derived.Test.YtnjaepdlfnidfaaProg
import Derived.Test.YtnjaepdlfnidfaaGrantP
import Derived.Test.YtnjaepdlfnidfaaMem
import Derived.Test.YtnjaepdlfnidfaaSeq
import Derived.WalkLawsBesides
import Derived.WalkSpells
import Derived.Outline
import Derived.Deep.Light
import Derived.LoopTactic
import Derived.IntWalk
import Derived.BigQuiet
namespace Go.Proofs.Ytnjaepdlfnidfaa.GrantW
open Go.RowKit Mem Scan GrantP

def intV (V : List Int) : List Value := V.map (Value.int .i64)
/-- A consent as a value. -/
abbrev conV (g : Int) (P : Nat → Bool) (A : Option Addr) (n c : Nat) : Value := .agg #[.int .i64 g, .bool (P 0), .bool (P 1), .bool (P 2), .bool (P 3), .bool (P 4), .bool (P 5), .bool (P 6), .bool (P 7), .bool (P 8), .bool (P 9), .slice A n c]
theorem ints_open {w : World} {B : Nat} {A : Option Addr} {V : List Int} (h : Row w B A (intV V)) (hl : 0 < V.length) : ∃ b o, A = some ⟨b, o, none⟩ ∧ b < B ∧ ∀ j (_ : j < V.length), w.cell? ⟨b, o + j, none⟩ = some (.int .i64 (V.getD j 0)) := by
  obtain ⟨b, o, e, hlt, hc⟩ := h.open' (by simpa [intV] using hl)
  refine ⟨b, o, e, hlt, fun j hj => hc j _ ?_⟩
  rw [intV, List.getElem?_map, List.getElem?_eq_getElem hj, List.getD_eq_getElem?_getD, List.getElem?_eq_getElem hj]; rfl
set_option maxRecDepth 100000 in
set_option maxHeartbeats 4000000 in
theorem check_any (g : Int) (P : Nat → Bool) (A : Option Addr) (c : Nat) (V : List Int) (w : World) (hr : Row w w.heap.size A (intV V)) (hn : V.length ≤ 9223372036854775807) :
    Calls Try.prog 19 #[conV g P A V.length c] w (fun e w' => e = .returned (.int .i64 ((check g V : Nat) : Int)) ∧ Below w.heap.size w w') := by
  generalize hres : check g V = res
  by_cases h1 : g < 0
  · have hR : res = 3 := by rw [← hres]; unfold check codeG; rw [if_neg (by rw [if_pos (.inl h1)]; decide)]
    subst hR
    clear hres
    go_enter Try.func19, Try.ntmps19
    go_wp2_with fail
    go_ret
    exact ⟨rfl, (Below.refl _ _).alloc (Nat.le_refl _) _⟩
  · have d1 : decide (g < 0) = false := decide_eq_false h1
    by_cases h2 : 68719476735 < g
    · have hR : res = 3 := by rw [← hres]; unfold check codeG; rw [if_neg (by rw [if_pos (.inr h2)]; decide)]
      subst hR
      clear hres
      go_enter Try.func19, Try.ntmps19
      go_wp2_with fail
      go_ret
      exact ⟨rfl, (Below.refl _ _).alloc (Nat.le_refl _) _⟩
    · have hres : scan (codeV V) V.length = res := by
        rw [← hres]; unfold check; rw [show codeG g = 0 from if_neg (by omega), if_pos rfl]
      have HRES := Lib.hid hres
      have d2 : decide (68719476735 < g) = false := decide_eq_false h2
      clear hres
      have hr1 := hr.below (below_new (Below.refl _ w) (.cells #[.int .i64 g, .bool (P 0), .bool (P 1), .bool (P 2), .bool (P 3), .bool (P 4), .bool (P 5), .bool (P 6), .bool (P 7), .bool (P 8), .bool (P 9), .slice A V.length c] 25))
      go_enter Try.func19, Try.ntmps19
      go_wp2_with fail
      go_loop [16] (fun i => ∃ k : Nat, k ≤ V.length ∧ i = .int .i64 k ∧ scan (codeV V) k = 0) (fun i => V.length - (intOf i).toNat)
      case atStart => exact ⟨0, Nat.zero_le _, rfl, rfl⟩
      case round =>
        obtain ⟨k, hk, rfl, hs⟩ := hrel
        have HS := Lib.hid hs
        clear hs
        by_cases hlt : k < V.length
        · obtain ⟨b, o, rfl, hbB, hcs⟩ := ints_open hr1 (by omega)
          have c0 := hcs k hlt
          have HC := Lib.hid hcs
          have hst := scan_stop (n := V.length) HS.out
          have hnx := scan_next (f := codeV V) HS.out
          have hcode : codeV V k = if V.getD k 0 < 1 ∨ 40 < V.getD k 0 then 3 else if 0 < k ∧ V.getD k 0 ≤ V.getD (k - 1) 0 then 4 else 0 := rfl
          clear hcs
          generalize V.getD k 0 = x at c0 hcode
          by_cases x1 : x < 1
          · rw [if_pos (.inl x1)] at hcode
            have HR := Lib.hid (HRES.out.symm.trans ((hst (by omega) hlt).trans hcode))
            clear hst hnx hcode
            go_wp2_with fail
            go_ret
            exact ⟨by rw [HR.out]; rfl, (Below.refl _ _).alloc (Nat.le_refl _) _⟩
          · have e1 : decide (x < 1) = false := decide_eq_false x1
            by_cases x2 : 40 < x
            · rw [if_pos (.inr x2)] at hcode
              have HR := Lib.hid (HRES.out.symm.trans ((hst (by omega) hlt).trans hcode))
              clear hst hnx hcode
              go_wp2_with fail
              go_ret
              exact ⟨by rw [HR.out]; rfl, (Below.refl _ _).alloc (Nat.le_refl _) _⟩
            · have e2 : decide (40 < x) = false := decide_eq_false x2
              rw [if_neg (by omega)] at hcode
              by_cases k0 : k = 0
              · rw [if_neg (by omega)] at hcode
                have HN := Lib.hid (hnx hcode)
                have e3 : decide (0 < k) = false := decide_eq_false (by omega)
                have e3' : ¬ 0 < k := by omega
                clear hst hnx hcode k0
                go_wp2_with fail
                go_round
                case rel => exact ⟨k + 1, by omega, by go_num, HN.out⟩
                case measure => simp [intOf]; omega
              · have e3 : decide ((0 : Int) < (k : Int)) = true := by simp; omega
                have c1 := HC.out (k - 1) (by omega)
                have e4 : ((k : Int) - 1).toNat = k - 1 := by omega
                have e5 : (0 : Int) ≤ (k : Int) - 1 := by omega
                have e6 : (k : Int) - 1 < (V.length : Int) := by omega
                generalize V.getD (k - 1) 0 = y at c1 hcode
                by_cases xy : x ≤ y
                · rw [if_pos ⟨by omega, xy⟩] at hcode
                  have HR := Lib.hid (HRES.out.symm.trans ((hst (by omega) hlt).trans hcode))
                  clear hst hnx hcode
                  go_wp2_with fail
                  go_ret
                  exact ⟨by rw [HR.out]; rfl, (Below.refl _ _).alloc (Nat.le_refl _) _⟩
                · rw [if_neg (by omega)] at hcode
                  have HN := Lib.hid (hnx hcode)
                  have e7 : decide (x ≤ y) = false := decide_eq_false xy
                  clear hst hnx hcode
                  go_wp2_with fail
                  go_round
                  case rel => exact ⟨k + 1, by omega, by go_num, HN.out⟩
                  case measure => simp [intOf]; omega
        · obtain rfl : k = V.length := by omega
          have HR := Lib.hid (HRES.out.symm.trans HS.out)
          go_wp2_with fail
          go_ret
          exact ⟨by rw [HR.out]; rfl, (Below.refl _ _).alloc (Nat.le_refl _) _⟩
theorem box_cells (w : World) (g : Int) (P : Nat → Bool) (v : Value) : let W := w.alloc (.cells #[.int .i64 g, .bool (P 0), .bool (P 1), .bool (P 2), .bool (P 3), .bool (P 4), .bool (P 5), .bool (P 6), .bool (P 7), .bool (P 8), .bool (P 9), v] 25); ∀ i, i < 10 → W.cell? ⟨w.heap.size, 1 + i, none⟩ = some (.bool (P i)) := by
  intro W i hi
  have h : ∀ j u, #[Value.int .i64 g, .bool (P 0), .bool (P 1), .bool (P 2), .bool (P 3), .bool (P 4), .bool (P 5), .bool (P 6), .bool (P 7), .bool (P 8), .bool (P 9), v][j]? = some u → W.cell? ⟨w.heap.size, j, none⟩ = some u := fun j u hu => by
    simp only [W, World.cell?_alloc_new]; exact hu
  have hc : i = 0 ∨ i = 1 ∨ i = 2 ∨ i = 3 ∨ i = 4 ∨ i = 5 ∨ i = 6 ∨ i = 7 ∨ i = 8 ∨ i = 9 := by omega
  rcases hc with rfl | rfl | rfl | rfl | rfl | rfl | rfl | rfl | rfl | rfl <;> exact h _ _ rfl
set_option maxRecDepth 100000 in
set_option maxHeartbeats 4000000 in
theorem refCheck_any (g : Int) (P : Nat → Bool) (A : Option Addr) (c : Nat) (V : List Int) (w : World) (hr : Row w w.heap.size A (intV V)) (hn : V.length ≤ 4611686018427387904) :
    Calls Try.prog 26 #[conV g P A V.length c] w (fun e w' => e = .returned (.int .i64 ((check g V : Nat) : Int)) ∧ Below w.heap.size w w') := by
  generalize hres : check g V = res
  by_cases h1 : g < 0
  · have hR : res = 3 := by rw [← hres]; unfold check codeG; rw [if_neg (by rw [if_pos (.inl h1)]; decide)]
    subst hR
    clear hres
    go_enter Try.func26, Try.ntmps26
    go_wp2_with fail
    go_ret
    exact ⟨rfl, (Below.refl _ _).alloc (Nat.le_refl _) _⟩
  · have d1 : decide (g < 0) = false := decide_eq_false h1
    by_cases h2 : 68719476735 < g
    · have hR : res = 3 := by rw [← hres]; unfold check codeG; rw [if_neg (by rw [if_pos (.inr h2)]; decide)]
      subst hR
      clear hres
      go_enter Try.func26, Try.ntmps26
      go_wp2_with fail
      go_ret
      exact ⟨rfl, (Below.refl _ _).alloc (Nat.le_refl _) _⟩
    · have hres : scan (codeV V) V.length = res := by
        rw [← hres]; unfold check; rw [show codeG g = 0 from if_neg (by omega), if_pos rfl]
      have HRES := Lib.hid hres
      have d2 : decide (68719476735 < g) = false := decide_eq_false h2
      clear hres
      go_enter Try.func26, Try.ntmps26
      go_wp2_with fail
      have hbox := heap_alloc_new w (.cells #[.int .i64 g, .bool (P 0), .bool (P 1), .bool (P 2), .bool (P 3), .bool (P 4), .bool (P 5), .bool (P 6), .bool (P 7), .bool (P 8), .bool (P 9), .slice A V.length c] 25)
      have hb0 : Below w.heap.size w (w.alloc (.cells #[.int .i64 g, .bool (P 0), .bool (P 1), .bool (P 2), .bool (P 3), .bool (P 4), .bool (P 5), .bool (P 6), .bool (P 7), .bool (P 8), .bool (P 9), .slice A V.length c] 25)) := (Below.refl _ _).alloc (Nat.le_refl _) _
      generalize (w.alloc (.cells #[.int .i64 g, .bool (P 0), .bool (P 1), .bool (P 2), .bool (P 3), .bool (P 4), .bool (P 5), .bool (P 6), .bool (P 7), .bool (P 8), .bool (P 9), .slice A V.length c] 25)) = W0 at hbox hb0 ⊢
      have HBOX := Lib.hid hbox
      clear hbox
      go_loopw [3] (fun i wr => ∃ k q : Nat, k ≤ V.length ∧ i = .int .i64 k ∧ scan (codeV V) k = 0 ∧ wr = W0.drewN q) (fun i _ => V.length - (intOf i).toNat)
      case atStart => exact ⟨0, 0, Nat.zero_le _, rfl, rfl, rfl⟩
      case round =>
        obtain ⟨k, q, hk, rfl, hs, rfl⟩ := hrel
        have HS := Lib.hid hs
        clear hs
        have hb1 : Below w.heap.size w (W0.drewN q) := below_drewN hb0 q
        have hv : W0.cell? ⟨w.heap.size, 11, none⟩ = some (.slice A V.length c) := by
          have h : W0.heap[w.heap.size]? = _ := HBOX.out
          simp [World.cell?, h]
        by_cases hlt : k < V.length
        · obtain ⟨b, o, rfl, hbB, hcs⟩ := ints_open (hr.below hb0) (by omega)
          have c0 := hcs k hlt
          have HC := Lib.hid hcs
          have hst := scan_stop (n := V.length) HS.out
          have hnx := scan_next (f := codeV V) HS.out
          have hcode : codeV V k = if V.getD k 0 < 1 ∨ 40 < V.getD k 0 then 3 else if 0 < k ∧ V.getD k 0 ≤ V.getD (k - 1) 0 then 4 else 0 := rfl
          clear hcs
          have i1 : (0 : Int) ≤ (k : Int) := by omega
          have i2 : (k : Int) < (V.length : Int) := by omega
          generalize V.getD k 0 = x at c0 hcode
          by_cases x1 : x < 1
          · rw [if_pos (.inl x1)] at hcode
            have HR := Lib.hid (HRES.out.symm.trans ((hst (by omega) hlt).trans hcode))
            clear hst hnx hcode
            go_wp2_with fail
            go_ret
            exact ⟨by rw [HR.out]; rfl, hb1⟩
          · have e1 : decide (x < 1) = false := decide_eq_false x1
            by_cases x2 : 40 < x
            · rw [if_pos (.inr x2)] at hcode
              have HR := Lib.hid (HRES.out.symm.trans ((hst (by omega) hlt).trans hcode))
              clear hst hnx hcode
              go_wp2_with fail
              go_ret
              exact ⟨by rw [HR.out]; rfl, hb1⟩
            · have e2 : decide (40 < x) = false := decide_eq_false x2
              rw [if_neg (by omega)] at hcode
              by_cases k0 : k = 0
              · rw [if_neg (by omega)] at hcode
                have HN := Lib.hid (hnx hcode)
                have e3 : decide (0 < k) = false := decide_eq_false (by omega)
                have e3' : ¬ 0 < k := by omega
                clear hst hnx hcode k0
                go_wp2_with fail
                go_quiet (fail)
                go_wp2_with fail
                go_roundw
                case rel => exact ⟨k + 1, _, by omega, by go_num, HN.out, rfl⟩
                case measure => simp [intOf]; omega
              · have e3 : decide ((0 : Int) < (k : Int)) = true := by simp; omega
                have e3' : 0 < k := by omega
                have c1 := HC.out (k - 1) (by omega)
                have e4 : ((k : Int) - 1).toNat = k - 1 := by omega
                have e5 : (0 : Int) ≤ (k : Int) - 1 := by omega
                have e6 : (k : Int) - 1 < (V.length : Int) := by omega
                have e8 : IntKind.i64.wrap ((k : Int) - 1) = (k : Int) - 1 := IntWalk.i64_in _ (by omega)
                generalize V.getD (k - 1) 0 = y at c1 hcode
                by_cases xy : x ≤ y
                · rw [if_pos ⟨by omega, xy⟩] at hcode
                  have HR := Lib.hid (HRES.out.symm.trans ((hst (by omega) hlt).trans hcode))
                  clear hst hnx hcode
                  go_wp2_with fail
                  go_quiet (fail)
                  go_wp2_with fail
                  go_ret
                  exact ⟨by rw [HR.out]; rfl, below_drewN hb1 _⟩
                · rw [if_neg (by omega)] at hcode
                  have HN := Lib.hid (hnx hcode)
                  have e7 : decide (x ≤ y) = false := decide_eq_false xy
                  clear hst hnx hcode
                  go_wp2_with fail
                  go_quiet (fail)
                  go_wp2_with fail
                  go_roundw
                  case rel => exact ⟨k + 1, _, by omega, by go_num, HN.out, rfl⟩
                  case measure => simp [intOf]; omega
        · obtain rfl : k = V.length := by omega
          have HR := Lib.hid (HRES.out.symm.trans HS.out)
          go_wp2_with fail
          go_ret
          exact ⟨by rw [HR.out]; rfl, hb1⟩
end Go.Proofs.Ytnjaepdlfnidfaa.GrantW
