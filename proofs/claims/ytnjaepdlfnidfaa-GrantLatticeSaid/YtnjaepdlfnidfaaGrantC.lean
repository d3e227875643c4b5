/- The walks of Meet and Join. -/
import Derived.Test.YtnjaepdlfnidfaaGrantB
namespace Go.Proofs.Ytnjaepdlfnidfaa.GrantC
open Go.RowKit Go.Maps Mem Scan GrantP GrantW GrantX GrantY GrantZ GrantM GrantB

theorem keepAnd (x y : Bool) (W : World) : Calls Try.prog 21 #[.bool x, .bool y] W (fun e w' => e = .returned (.bool (x && y)) ∧ W = w') := by
  cases x
  all_goals
    go_enter Try.func21, Try.ntmps21
    go_wp2_with fail
    go_ret
    exact ⟨by simp, rfl⟩
theorem keepOr (x y : Bool) (W : World) : Calls Try.prog 22 #[.bool x, .bool y] W (fun e w' => e = .returned (.bool (x || y)) ∧ W = w') := by
  cases x
  all_goals
    go_enter Try.func22, Try.ntmps22
    go_wp2_with fail
    go_ret
    exact ⟨by simp, rfl⟩
set_option maxRecDepth 100000 in
set_option maxHeartbeats 4000000 in
theorem meet_any (g g' : Int) (P Q : Nat → Bool) (A : Option Addr) (c : Nat) (V : List Int) (A' : Option Addr) (c' : Nat) (U : List Int) (w : World)
    (hr : Row w w.heap.size A (intV V)) (hr' : Row w w.heap.size A' (intV U)) (hn : V.length ≤ 1152921504606846976) (hn' : U.length ≤ 1152921504606846976) (hV : Ints V) (hU : Ints U) :
    Calls Try.prog 7 #[conV g P A V.length c, conV g' Q A' U.length c'] w (CPostR (bothF (· && ·) g g' P Q V U) w) := by
  have CB := Lib.hid (fun w' h h' => both_any 21 (· && ·) g g' P Q A c V A' c' U w' keepAnd (enters_of Try.func21 (by kernel_rfl) rfl) h h' hn hn' hV hU)
  generalize bothF (· && ·) g g' P Q V U = r at CB ⊢
  obtain ⟨rg, rP, rV, rn⟩ := r
  go_enter Try.func7, Try.ntmps7
  have HZ := ConAt.new ((w.alloc (.cells (conC g P (.slice A V.length c)) 25)).alloc (.cells (conC g' Q (.slice A' U.length c')) 25)) 0 (fun _ => false) (.slice none 0 0)
  have hb : Below w.heap.size w (((w.alloc (.cells (conC g P (.slice A V.length c)) 25)).alloc (.cells (conC g' Q (.slice A' U.length c')) 25)).alloc (.cells (conC 0 (fun _ => false) (.slice none 0 0)) 25)) := (((Below.refl _ w).alloc (Nat.le_refl _) _).alloc (by simp) _).alloc (by simp; omega) _
  rw [World.size_alloc, World.size_alloc] at HZ
  go_wp2_with fail
  with_reducible refine (CB.out _ (hr.at' hb) (hr'.at' hb)).mono ?_
  rintro e w1 ⟨v, rfl, hown, b1⟩
  have HZ1 := HZ.below b1
  have hb1 := below_cat hb b1
  obtain ⟨Av, cv, rfl, _, _, _⟩ := own_row hown
  dsimp only at hown ⊢
  obtain ⟨z0, z1, z2, z3, z4, z5, z6, z7, z8, z9, z10, z11⟩ := HZ1.all
  have f := HZ1.free
  have HZS := HZ1.store rg rP (.slice Av rV.length cv)
  have hKS := storeC_kept w1 (w.heap.size + 1 + 1) rg rP (.slice Av rV.length cv)
  have hsz : w.heap.size + 1 + 1 < (((w.alloc (.cells (conC g P (.slice A V.length c)) 25)).alloc (.cells (conC g' Q (.slice A' U.length c')) 25)).alloc (.cells (conC 0 (fun _ => false) (.slice none 0 0)) 25)).heap.size := by simp
  have hownS := own_lower (a := w.heap.size) (own_kept hown hKS hsz) (by simp; omega)
  have hblS : Below w.heap.size w (storeC w1 (w.heap.size + 1 + 1) rg rP (.slice Av rV.length cv)) := hb1.trans (hKS.below hb1.size (fun j hj => by omega))
  have HHS := Lib.hid HZS; have HOS := Lib.hid hownS; have HBS := Lib.hid hblS
  clear HZS hKS hownS hblS hown HZ HZ1 hsz hb hb1
  go_wp2_with fail
  change bodyPost _ _ _ _ _ (storeC w1 (w.heap.size + 1 + 1) rg rP (.slice Av rV.length cv))
  generalize storeC w1 (w.heap.size + 1 + 1) rg rP (.slice Av rV.length cv) = W9 at HHS HOS HBS ⊢
  clear z0 z1 z2 z3 z4 z5 z6 z7 z8 z9 z10 z11
  obtain ⟨r0, r1, r2, r3, r4, r5, r6, r7, r8, r9, r10, r11⟩ := HHS.out.all
  refine bodyPost_ret (v := .tuple #[.agg (conC rg rP (.slice Av rV.length cv)), .int .i64 (rn : Int)]) (by simp [results, Try.results7, go_sem, r0, r1, r2, r3, r4, r5, r6, r7, r8, r9, r10, r11]) rfl ⟨_, rfl, HOS.out, HBS.out⟩
set_option maxRecDepth 100000 in
set_option maxHeartbeats 4000000 in
theorem join_any (g g' : Int) (P Q : Nat → Bool) (A : Option Addr) (c : Nat) (V : List Int) (A' : Option Addr) (c' : Nat) (U : List Int) (w : World)
    (hr : Row w w.heap.size A (intV V)) (hr' : Row w w.heap.size A' (intV U)) (hn : V.length ≤ 1152921504606846976) (hn' : U.length ≤ 1152921504606846976) (hV : Ints V) (hU : Ints U) :
    Calls Try.prog 8 #[conV g P A V.length c, conV g' Q A' U.length c'] w (CPostR (bothF (· || ·) g g' P Q V U) w) := by
  have CB := Lib.hid (fun w' h h' => both_any 22 (· || ·) g g' P Q A c V A' c' U w' keepOr (enters_of Try.func22 (by kernel_rfl) rfl) h h' hn hn' hV hU)
  generalize bothF (· || ·) g g' P Q V U = r at CB ⊢
  obtain ⟨rg, rP, rV, rn⟩ := r
  go_enter Try.func8, Try.ntmps8
  have HZ := ConAt.new ((w.alloc (.cells (conC g P (.slice A V.length c)) 25)).alloc (.cells (conC g' Q (.slice A' U.length c')) 25)) 0 (fun _ => false) (.slice none 0 0)
  have hb : Below w.heap.size w (((w.alloc (.cells (conC g P (.slice A V.length c)) 25)).alloc (.cells (conC g' Q (.slice A' U.length c')) 25)).alloc (.cells (conC 0 (fun _ => false) (.slice none 0 0)) 25)) := (((Below.refl _ w).alloc (Nat.le_refl _) _).alloc (by simp) _).alloc (by simp; omega) _
  rw [World.size_alloc, World.size_alloc] at HZ
  go_wp2_with fail
  with_reducible refine (CB.out _ (hr.at' hb) (hr'.at' hb)).mono ?_
  rintro e w1 ⟨v, rfl, hown, b1⟩
  have HZ1 := HZ.below b1
  have hb1 := below_cat hb b1
  obtain ⟨Av, cv, rfl, _, _, _⟩ := own_row hown
  dsimp only at hown ⊢
  obtain ⟨z0, z1, z2, z3, z4, z5, z6, z7, z8, z9, z10, z11⟩ := HZ1.all
  have f := HZ1.free
  have HZS := HZ1.store rg rP (.slice Av rV.length cv)
  have hKS := storeC_kept w1 (w.heap.size + 1 + 1) rg rP (.slice Av rV.length cv)
  have hsz : w.heap.size + 1 + 1 < (((w.alloc (.cells (conC g P (.slice A V.length c)) 25)).alloc (.cells (conC g' Q (.slice A' U.length c')) 25)).alloc (.cells (conC 0 (fun _ => false) (.slice none 0 0)) 25)).heap.size := by simp
  have hownS := own_lower (a := w.heap.size) (own_kept hown hKS hsz) (by simp; omega)
  have hblS : Below w.heap.size w (storeC w1 (w.heap.size + 1 + 1) rg rP (.slice Av rV.length cv)) := hb1.trans (hKS.below hb1.size (fun j hj => by omega))
  have HHS := Lib.hid HZS; have HOS := Lib.hid hownS; have HBS := Lib.hid hblS
  clear HZS hKS hownS hblS hown HZ HZ1 hsz hb hb1
  go_wp2_with fail
  change bodyPost _ _ _ _ _ (storeC w1 (w.heap.size + 1 + 1) rg rP (.slice Av rV.length cv))
  generalize storeC w1 (w.heap.size + 1 + 1) rg rP (.slice Av rV.length cv) = W9 at HHS HOS HBS ⊢
  clear z0 z1 z2 z3 z4 z5 z6 z7 z8 z9 z10 z11
  obtain ⟨r0, r1, r2, r3, r4, r5, r6, r7, r8, r9, r10, r11⟩ := HHS.out.all
  refine bodyPost_ret (v := .tuple #[.agg (conC rg rP (.slice Av rV.length cv)), .int .i64 (rn : Int)]) (by simp [results, Try.results8, go_sem, r0, r1, r2, r3, r4, r5, r6, r7, r8, r9, r10, r11]) rfl ⟨_, rfl, HOS.out, HBS.out⟩
end Go.Proofs.Ytnjaepdlfnidfaa.GrantC
