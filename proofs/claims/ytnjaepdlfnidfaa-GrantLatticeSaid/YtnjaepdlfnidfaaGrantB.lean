/- The walk of grant.both. -/
import Derived.Test.YtnjaepdlfnidfaaGrantM
import Derived.RangeFuncBox
import Derived.OneCell
namespace Go.Proofs.Ytnjaepdlfnidfaa.GrantB
open Go.RowKit Go.Maps Mem Scan GrantP GrantW GrantX GrantY GrantZ GrantM

abbrev conC (g : Int) (P : Nat → Bool) (v : Value) : Array Value := #[.int .i64 g, .bool (P 0), .bool (P 1), .bool (P 2), .bool (P 3), .bool (P 4), .bool (P 5), .bool (P 6), .bool (P 7), .bool (P 8), .bool (P 9), v]
/-- A call that gives a consent and a code. -/
def CPost (g : Int) (P : Nat → Bool) (V : List Int) (n : Int) (w : World) (e : Ending) (w' : World) : Prop := ∃ v, e = .returned (.tuple #[.agg (conC g P v), .int .i64 n]) ∧ w'.ownsRow w.heap.size 3 1 v V.length (intV V) ∧ Below w.heap.size w w'
/-- A consent in block o. -/
def ConAt (w : World) (o : Nat) (g : Int) (P : Nat → Bool) (v : Value) : Prop := w.heap[o]? = some (.cells (conC g P v) 25 (0, 0))
theorem ConAt.of {w w' : World} {o : Nat} {g : Int} {P : Nat → Bool} {v : Value} (h : ConAt w o g P v) (e : w'.heap[o]? = w.heap[o]?) : ConAt w' o g P v := e.trans h
theorem ConAt.lt {w : World} {o : Nat} {g : Int} {P : Nat → Bool} {v : Value} (h : ConAt w o g P v) : o < w.heap.size := block_lt h
theorem ConAt.below {w w' : World} {o : Nat} {g : Int} {P : Nat → Bool} {v : Value} (h : ConAt w o g P v) (hb : Below w.heap.size w w') : ConAt w' o g P v := h.of (hb.block o h.lt)
theorem ConAt.at' {w : World} {o : Nat} {g : Int} {P : Nat → Bool} {v : Value} (h : ConAt w o g P v) (j : Nat) (u : Value) (hu : (conC g P v)[j]? = some u) : w.cell? ⟨o, j, none⟩ = some u := by
  have h1 : w.heap[o]? = _ := h
  simp only [World.cell?, h1]; exact hu
theorem ConAt.b {w : World} {o : Nat} {g : Int} {P : Nat → Bool} {v : Value} (h : ConAt w o g P v) (i : Nat) (hi : i < 10) : w.cell? ⟨o, 1 + i, none⟩ = some (.bool (P i)) := h.at' _ _ (con_at g P v i hi)
theorem ConAt.free {w : World} {o : Nat} {g : Int} {P : Nat → Bool} {v : Value} (h : ConAt w o g P v) (j : Nat) : w.frozen? ⟨o, j, none⟩ = false := by
  have h1 : w.heap[o]? = _ := h
  simp [World.frozen?, h1]
def upd (P : Nat → Bool) (i : Nat) (b : Bool) : Nat → Bool := fun j => if j = i then b else P j
theorem ConAt.setB {w : World} {o : Nat} {g : Int} {P : Nat → Bool} {v : Value} (h : ConAt w o g P v) (i : Nat) (hi : i < 10) (b : Bool) : ConAt (w.setCell ⟨o, 1 + i, none⟩ (.bool b)) o g (upd P i b) v := by
  have h1 := heap_setCell_same w o (1 + i) (conC g P v) 25 (.bool b) h
  unfold ConAt
  rw [h1]
  have hc : i = 0 ∨ i = 1 ∨ i = 2 ∨ i = 3 ∨ i = 4 ∨ i = 5 ∨ i = 6 ∨ i = 7 ∨ i = 8 ∨ i = 9 := by omega
  rcases hc with rfl | rfl | rfl | rfl | rfl | rfl | rfl | rfl | rfl | rfl <;> rfl
theorem ConAt.setV {w : World} {o : Nat} {g : Int} {P : Nat → Bool} {v : Value} (h : ConAt w o g P v) (u : Value) : ConAt (w.setCell ⟨o, 11, none⟩ u) o g P u := heap_setCell_same w o 11 (conC g P v) 25 u h
theorem ConAt.setG {w : World} {o : Nat} {g : Int} {P : Nat → Bool} {v : Value} (h : ConAt w o g P v) (i : Int) : ConAt (w.setCell ⟨o, 0, none⟩ (.int .i64 i)) o i P v := heap_setCell_same w o 0 (conC g P v) 25 (.int .i64 i) h
theorem ConAt.new (w : World) (g : Int) (P : Nat → Bool) (v : Value) : ConAt (w.alloc (.cells (conC g P v) 25)) w.heap.size g P v := heap_alloc_new w _
theorem ConAt.alloc {w : World} {o : Nat} {g : Int} {P : Nat → Bool} {v : Value} (h : ConAt w o g P v) (x : Obj) : ConAt (w.alloc x) o g P v := h.of (Below.heap_alloc w x o h.lt)
theorem ConAt.other {w : World} {o : Nat} {g : Int} {P : Nat → Bool} {v : Value} (h : ConAt w o g P v) {q : Addr} (hq : q.block ≠ o) (u : Value) : ConAt (w.setCell q u) o g P v := h.of (Below.heap_setCell w q u o hq.symm)
theorem pair0 (x0 x1 x2 x3 x4 x5 x6 x7 x8 x9 x10 x11 y0 y1 y2 y3 y4 y5 y6 y7 y8 y9 y10 y11 : Value) (w : World) : (Instr.index 52 (.agg #[x0, x1, x2, x3, x4, x5, x6, x7, x8, x9, x10, x11, y0, y1, y2, y3, y4, y5, y6, y7, y8, y9, y10, y11]) (.int .i64 0)).run Try.prog w = .ok (.agg #[x0, x1, x2, x3, x4, x5, x6, x7, x8, x9, x10, x11]) w := by kernel_rfl
theorem pair1 (x0 x1 x2 x3 x4 x5 x6 x7 x8 x9 x10 x11 y0 y1 y2 y3 y4 y5 y6 y7 y8 y9 y10 y11 : Value) (w : World) : (Instr.index 52 (.agg #[x0, x1, x2, x3, x4, x5, x6, x7, x8, x9, x10, x11, y0, y1, y2, y3, y4, y5, y6, y7, y8, y9, y10, y11]) (.int .i64 1)).run Try.prog w = .ok (.agg #[y0, y1, y2, y3, y4, y5, y6, y7, y8, y9, y10, y11]) w := by kernel_rfl
/-- Cells stored one by one. -/
def storeL (w : World) (o : Nat) : Nat → List Value → World
  | _, [] => w
  | j, u :: us => storeL (w.setCell ⟨o, j, none⟩ u) o (j + 1) us
theorem storeL_heap (o : Nat) (t : TypeId) : ∀ (us : List Value) (j : Nat) (pre old : List Value) (w : World), w.heap[o]? = some (.cells (pre ++ old).toArray t (0, 0)) → pre.length = j → old.length = us.length → (storeL w o j us).heap[o]? = some (.cells (pre ++ us).toArray t (0, 0))
  | [], _, pre, old, _, h, _, hl => by
    have : old = [] := List.eq_nil_of_length_eq_zero hl
    subst this
    exact h
  | _ :: _, _, _, [], _, _, _, hl => by cases hl
  | u :: us, j, pre, x :: old, w, h, hj, hl => by
    have h1 := heap_setCell_same w o j (pre ++ x :: old).toArray t u h
    have e : (pre ++ x :: old).toArray.setIfInBounds j u = ((pre ++ [u]) ++ old).toArray := by
      subst hj
      simp
    rw [e] at h1
    have := storeL_heap o t us (j + 1) (pre ++ [u]) old _ h1 (by simp [hj]) (by simpa using hl)
    simpa [storeL] using this
theorem storeL_kept (o : Nat) : ∀ (us : List Value) (j : Nat) (w a : World), Kept (· ≠ o) a w → Kept (· ≠ o) a (storeL w o j us)
  | [], _, _, _, h => h
  | u :: us, j, _, a, h => storeL_kept o us (j + 1) _ a (h.setCell (fun h => absurd rfl h) u)
/-- A consent stored over another one. -/
def storeC (w : World) (o : Nat) (g : Int) (P : Nat → Bool) (v : Value) : World := storeL w o 0 [.int .i64 g, .bool (P 0), .bool (P 1), .bool (P 2), .bool (P 3), .bool (P 4), .bool (P 5), .bool (P 6), .bool (P 7), .bool (P 8), .bool (P 9), v]
theorem ConAt.store {w : World} {o : Nat} {g0 : Int} {P0 : Nat → Bool} {v0 : Value} (h : ConAt w o g0 P0 v0) (g : Int) (P : Nat → Bool) (v : Value) : ConAt (storeC w o g P v) o g P v :=
  storeL_heap o 25 [.int .i64 g, .bool (P 0), .bool (P 1), .bool (P 2), .bool (P 3), .bool (P 4), .bool (P 5), .bool (P 6), .bool (P 7), .bool (P 8), .bool (P 9), v] 0 [] [.int .i64 g0, .bool (P0 0), .bool (P0 1), .bool (P0 2), .bool (P0 3), .bool (P0 4), .bool (P0 5), .bool (P0 6), .bool (P0 7), .bool (P0 8), .bool (P0 9), v0] w h rfl rfl
theorem storeC_kept (w : World) (o : Nat) (g : Int) (P : Nat → Bool) (v : Value) : Kept (· ≠ o) w (storeC w o g P v) := storeL_kept o _ 0 w w (Kept.refl _ _)
theorem ConAt.congr {w : World} {o : Nat} {g : Int} {P Q : Nat → Bool} {v : Value} (h : ConAt w o g P v) (e : ∀ i, i < 10 → P i = Q i) : ConAt w o g Q v := by
  unfold ConAt conC at h ⊢
  rw [← e 0 (by omega), ← e 1 (by omega), ← e 2 (by omega), ← e 3 (by omega), ← e 4 (by omega), ← e 5 (by omega), ← e 6 (by omega), ← e 7 (by omega), ← e 8 (by omega), ← e 9 (by omega)]
  exact h
/-- The twelve cells, for the walk. -/
theorem ConAt.all {w : World} {o : Nat} {g : Int} {P : Nat → Bool} {v : Value} (h : ConAt w o g P v) : w.cell? ⟨o, 0, none⟩ = some (.int .i64 g) ∧ w.cell? ⟨o, 1, none⟩ = some (.bool (P 0)) ∧ w.cell? ⟨o, 2, none⟩ = some (.bool (P 1)) ∧ w.cell? ⟨o, 3, none⟩ = some (.bool (P 2)) ∧ w.cell? ⟨o, 4, none⟩ = some (.bool (P 3)) ∧ w.cell? ⟨o, 5, none⟩ = some (.bool (P 4)) ∧ w.cell? ⟨o, 6, none⟩ = some (.bool (P 5)) ∧ w.cell? ⟨o, 7, none⟩ = some (.bool (P 6)) ∧ w.cell? ⟨o, 8, none⟩ = some (.bool (P 7)) ∧ w.cell? ⟨o, 9, none⟩ = some (.bool (P 8)) ∧ w.cell? ⟨o, 10, none⟩ = some (.bool (P 9)) ∧ w.cell? ⟨o, 11, none⟩ = some v :=
  ⟨h.at' 0 _ rfl, h.at' 1 _ rfl, h.at' 2 _ rfl, h.at' 3 _ rfl, h.at' 4 _ rfl, h.at' 5 _ rfl, h.at' 6 _ rfl, h.at' 7 _ rfl, h.at' 8 _ rfl, h.at' 9 _ rfl, h.at' 10 _ rfl, h.at' 11 _ rfl⟩
theorem nums_at (k : Nat) (h : k < 40) : nums.take (k + 1) = nums.take k ++ [(k : Int) + 1] := by
  have hl : nums.length = 40 := by simp [nums]
  rw [List.take_succ_eq_append_getElem (by omega)]
  simp [nums]
theorem grown_set (W : World) (b j : Nat) (v : Value) : W.grownBy (W.setCell ⟨b, j, none⟩ v) (some b) :=
  ⟨rfl, rfl, rfl, by simp [World.setCell], fun i _ hi => Below.heap_setCell W ⟨b, j, none⟩ v i (fun e => hi (by rw [e]))⟩
theorem own_kept {w w' : World} {g : Nat} {base : Nat} {e : TypeId} {size n : Nat} {v : Value} {xs : List Value} (h : w.ownsRow base e size v n xs) (k : Kept (· ≠ g) w w') (hg : g < base) : w'.ownsRow base e size v n xs :=
  h.kept (row := some g) ⟨k.os, k.tape, k.output, k.size, fun i hi hne => k.block i hi (fun e => hne (by rw [e]))⟩ (.inr (fun e => by have := (h.lt g e).1; omega))
theorem own_lower {w : World} {a b : Nat} {e : TypeId} {size n : Nat} {v : Value} {xs : List Value} (h : w.ownsRow b e size v n xs) (hab : a ≤ b) : w.ownsRow a e size v n xs := by
  refine ⟨h.1, ?_⟩
  rcases h.2 with h | ⟨g, cap, cur, e1, e2, e3⟩
  · exact .inl h
  · exact .inr ⟨g, cap, cur, e1, by omega, e3⟩
theorem intV_app (a b : List Int) : intV (a ++ b) = intV a ++ intV b := by simp [intV]
theorem elemI : Elem Try.prog 23 3 1 8 := Elem.mk Try.underlying23 (by kernel_rfl : (Try.prog.info? 3).map (fun i => (i.zero, i.size, i.bytes)) = some (some (.int .i64 0), 1, 8)) rfl (by decide)
/-- How both ends where one is not right. -/
theorem ends_bad {w1 w : World} {o : Nat} (HZ : ConAt w1 o 0 (fun _ => false) (.slice none 0 0)) (hb : Below w.heap.size w w1) (ho : w.heap.size ≤ o) :
    ConAt (storeC w1 o 0 (fun _ => false) (.slice none 0 0)) o 0 (fun _ => false) (.slice none 0 0) ∧ Below w.heap.size w (storeC w1 o 0 (fun _ => false) (.slice none 0 0)) :=
  ⟨HZ.store _ _ _, hb.trans ((storeC_kept _ _ _ _ _).below hb.size (fun k hk => by omega))⟩
def bothF (keep : Bool → Bool → Bool) (g g' : Int) (P Q : Nat → Bool) (V U : List Int) : Int × (Nat → Bool) × List Int × Nat :=
  if check g V ≠ 0 then (0, fun _ => false, [], check g V) else if check g' U ≠ 0 then (0, fun _ => false, [], check g' U) else (max g g', fun i => keep (P i) (Q i), upto (fun v => keep (V.contains v) (U.contains v)), 0)
def CPostR (r : Int × (Nat → Bool) × List Int × Nat) (w : World) (e : Ending) (w' : World) : Prop := CPost r.1 r.2.1 r.2.2.1 (r.2.2.2 : Int) w e w'
theorem check_zero {g : Int} {V : List Int} (h : check g V = 0) : codeG g = 0 ∧ scan (codeV V) V.length = 0 := by
  unfold check at h
  split at h
  · rename_i h1; exact ⟨h1, h⟩
  · cases h
theorem right_len {V : List Int} (h : Right V) : V.length ≤ 40 := by
  rw [right_upto h]
  have : nums.length = 40 := by simp [nums]
  exact Nat.le_trans (List.length_filter_le _ _) (by omega)
set_option maxRecDepth 100000 in
set_option maxHeartbeats 8000000 in
theorem both_any (kf : Nat) (keep : Bool → Bool → Bool) (g g' : Int) (P Q : Nat → Bool) (A : Option Addr) (c : Nat) (V : List Int) (A' : Option Addr) (c' : Nat) (U : List Int) (w : World)
    (hk : ∀ (x y : Bool) (W : World), Calls Try.prog kf #[.bool x, .bool y] W (fun e w' => e = .returned (.bool (keep x y)) ∧ W = w')) (ek : ∀ args w, (callFunc kf args).run Try.prog w = .ok (.enter kf args) w)
    (hr : Row w w.heap.size A (intV V)) (hr' : Row w w.heap.size A' (intV U)) (hn : V.length ≤ 1152921504606846976) (hn' : U.length ≤ 1152921504606846976) (hV : Ints V) (hU : Ints U) :
    Calls Try.prog 20 #[conV g P A V.length c, conV g' Q A' U.length c', .func (.func kf) #[] #[]] w (CPostR (bothF keep g g' P Q V U) w) := by
  have CC := Lib.hid (fun w' h => check_any g P A c V w' h (by omega))
  have CD := Lib.hid (fun w' h => check_any g' Q A' c' U w' h (by omega))
  obtain ⟨r, hres⟩ : ∃ r, bothF keep g g' P Q V U = r := ⟨_, rfl⟩
  rw [hres]
  unfold bothF at hres
  have hi0 := pair0
  have hi1 := pair1
  have hlenV : check g V = 0 → V.length ≤ 40 := fun h => right_len (right_of (check_zero h).2)
  have hlenU : check g' U = 0 → U.length ≤ 40 := fun h => right_len (right_of (check_zero h).2)
  generalize check g V = x at CC hres hlenV
  generalize check g' U = y at CD hres hlenU
  have HLV := Lib.hid hlenV
  have HLU := Lib.hid hlenU
  clear hlenV hlenU
  have HRES := Lib.hid hres
  have HK := Lib.hid hk
  clear hres hk
  go_enter Try.func20, Try.ntmps20
  go_wp2_with fail
  have HA := ((ConAt.new w g P (.slice A V.length c)).alloc (.cells (conC g' Q (.slice A' U.length c')) 25)).alloc (.cells (conC 0 (fun _ => false) (.slice none 0 0)) 25)
  have HB := (ConAt.new (w.alloc (.cells (conC g P (.slice A V.length c)) 25)) g' Q (.slice A' U.length c')).alloc (.cells (conC 0 (fun _ => false) (.slice none 0 0)) 25)
  have HZ := ConAt.new ((w.alloc (.cells (conC g P (.slice A V.length c)) 25)).alloc (.cells (conC g' Q (.slice A' U.length c')) 25)) 0 (fun _ => false) (.slice none 0 0)
  have hb : Below w.heap.size w (((w.alloc (.cells (conC g P (.slice A V.length c)) 25)).alloc (.cells (conC g' Q (.slice A' U.length c')) 25)).alloc (.cells (conC 0 (fun _ => false) (.slice none 0 0)) 25)) := (((Below.refl _ w).alloc (Nat.le_refl _) _).alloc (by simp) _).alloc (by simp; omega) _
  rw [World.size_alloc] at HB HZ
  rw [World.size_alloc] at HZ
  change Code.wp _ _ _ _ (((w.alloc (.cells (conC g P (.slice A V.length c)) 25)).alloc (.cells (conC g' Q (.slice A' U.length c')) 25)).alloc (.cells (conC 0 (fun _ => false) (.slice none 0 0)) 25))
  generalize (((w.alloc (.cells (conC g P (.slice A V.length c)) 25)).alloc (.cells (conC g' Q (.slice A' U.length c')) 25)).alloc (.cells (conC 0 (fun _ => false) (.slice none 0 0)) 25)) = W0 at HA HB HZ hb ⊢
  refine wp_loop_rounds 3 ?_
  rw [rounds_succ]
  have hb1 := below_new hb (.cells (conC g P (.slice A V.length c)) 25)
  have hzz := HZ.lt
  go_wp2_with fail
  with_reducible refine (CC.out _ (hr.at' hb1)).mono ?_
  rintro e w1 ⟨rfl, b1⟩
  have hb2 := below_cat hb1 b1
  have HZ1 := (HZ.alloc _).below b1
  by_cases hx : x = 0
  · subst hx
    clear hb1
    have HA1 := (HA.alloc (.cells (conC g P (.slice A V.length c)) 25)).below b1
    have HB1 := (HB.alloc (.cells (conC g P (.slice A V.length c)) 25)).below b1
    clear HA HB HZ b1 hzz CC
    have hzz := HZ1.lt
    go_wp2_with fail
    rw [rounds_succ]
    have hb3 := below_new hb2 (.cells (conC g' Q (.slice A' U.length c')) 25)
    go_wp2_with fail
    with_reducible refine (CD.out _ (hr'.at' hb3)).mono ?_
    rintro e w2 ⟨rfl, b2⟩
    have hb4 := below_cat hb3 b2
    have HZ2 := (HZ1.alloc _).below b2
    by_cases hy : y = 0
    · subst hy
      have HA2 := (HA1.alloc (.cells (conC g' Q (.slice A' U.length c')) 25)).below b2
      have HB2 := (HB1.alloc (.cells (conC g' Q (.slice A' U.length c')) 25)).below b2
      clear HA1 HB1 HZ1 hb2 hb3 b2 CD hzz
      have lV := HLV.out (by simp)
      have lU := HLU.out (by simp)
      clear HLV HLU
      go_wp2_with fail
      rw [rounds_succ]
      obtain ⟨z0, z1, z2, z3, z4, z5, z6, z7, z8, z9, z10, z11⟩ := HA2.all
      have hgB := HB2.at' 0 _ rfl
      have hvB := HB2.at' 11 _ rfl
      have hlA := HA2.lt
      have hlB := HB2.lt
      have hlZ := HZ2.lt
      have hix := fun k h w => index10 P k h w
      have HIX := Lib.hid hix
      clear hix
      go_wp2_with fail
      change Code.wp _ _ _ _ (w2.alloc (.cells (conC (max g g') (fun _ => false) (.slice none 0 0)) 25))
      have HO := ConAt.new w2 (max g g') (fun _ => false) (.slice none 0 0)
      have hb5 := below_new hb4 (.cells (conC (max g g') (fun _ => false) (.slice none 0 0)) 25)
      have HA3 := HA2.alloc (.cells (conC (max g g') (fun _ => false) (.slice none 0 0)) 25)
      have HB3 := HB2.alloc (.cells (conC (max g g') (fun _ => false) (.slice none 0 0)) 25)
      have HZ3 := HZ2.alloc (.cells (conC (max g g') (fun _ => false) (.slice none 0 0)) 25)
      clear z0 z1 z2 z3 z4 z5 z6 z7 z8 z9 z10 z11 hgB hvB
      generalize max g g' = m at HO hb5 HA3 HB3 HZ3 HRES ⊢
      have hzO : w2.heap.size < (w2.alloc (.cells (conC m (fun _ => false) (.slice none 0 0)) 25)).heap.size := by simp
      generalize hO : w2.heap.size = O at HO hlA hlB hlZ hzO ⊢
      generalize w2.alloc (.cells (conC m (fun _ => false) (.slice none 0 0)) 25) = W3 at HO hb5 HA3 HB3 HZ3 hzO ⊢
      clear HA2 HB2 HZ2 hb4 hO
      go_loopw [42] (fun i wr => ∃ (k : Nat) (R : Nat → Bool), k ≤ 10 ∧ i = .int .i64 k ∧ ConAt wr O m R (.slice none 0 0) ∧ (∀ i, i < 10 → R i = if i < k then keep (P i) (Q i) else false) ∧ Kept (· ≠ O) W3 wr) (fun i _ => 10 - (intOf i).toNat)
      case atStart => exact ⟨0, fun _ => false, by omega, rfl, HO, fun i hi => by simp, Kept.refl _ _⟩
      case round =>
        obtain ⟨k, R, hk10, rfl, hcon, hR, hkept⟩ := hrel
        have HRR := Lib.hid hR
        clear hR HO
        by_cases hlt : k < 10
        · have d0 : (k : Int) < 10 := by omega
          have hi := HIX.out k hlt
          have hQ := (HB3.of (hkept.block _ HB3.lt (by omega))).b k hlt
          have hf := hcon.free (1 + k)
          have hold := hcon.b k hlt
          have CK := Lib.hid (fun W => HK.out (P k) (Q k) W)
          have hset := fun b => hcon.setB k hlt b
          have HSET := Lib.hid hset
          have hnew : Hid (∀ b, b = keep (P k) (Q k) → ∀ i, i < 10 → upd R k b i = if i < k + 1 then keep (P i) (Q i) else false) := Lib.hid (by
            intro b hb i hi
            unfold upd
            by_cases e : i = k
            · subst e; rw [if_pos rfl, if_pos (by omega), hb]
            · rw [if_neg e, HRR.out i hi]
              by_cases h2 : i < k
              · rw [if_pos h2, if_pos (by omega)]
              · rw [if_neg h2, if_neg (by omega)])
          clear hset hcon
          generalize hkb : keep (P k) (Q k) = kb at CK hnew
          have HKB := Lib.hid hkb
          clear hkb
          go_wp2_with fail
          with_reducible refine (CK.out _).mono ?_
          rintro e w5 ⟨rfl, rfl⟩
          go_wp2_with fail
          go_roundw
          case rel => exact ⟨k + 1, upd R k kb, by omega, by go_num, HSET.out kb, hnew.out kb rfl, hkept.setCell (fun h => absurd rfl h) _⟩
          case measure => simp [intOf]; omega
        · obtain rfl : k = 10 := by omega
          go_wp2_with fail
          have HO4 : ConAt wr O m (fun i => keep (P i) (Q i)) (.slice none 0 0) := hcon.congr (fun i hi => by rw [HRR.out i hi, if_pos hi])
          have HA4 := HA3.of (hkept.block _ HA3.lt (by omega))
          have HB4 := HB3.of (hkept.block _ HB3.lt (by omega))
          have HZ4 := HZ3.of (hkept.block _ HZ3.lt (by omega))
          have hb6 : Below w.heap.size w wr := hb5.trans (hkept.below hb5.size (fun j hj => by omega))
          have cA := HA4.at' 11 _ rfl
          have cB := HB4.at' 11 _ rfl
          have lA := HA4.lt
          have lB := HB4.lt
          clear hcon HRR hkept HA3 HB3 HZ3 hb5 HIX
          have CSV := Lib.hid (fun w' h => setOf_any A c V w' h hn hV)
          have CSU := Lib.hid (fun w' h => setOf_any A' c' U w' h hn' hU)
          refine Seq.region_seq (S := fun w' => Below wr.heap.size wr w') [(0, false), (1, false), (3, false), (4, false), (2, true), (5, true), (6, false), (7, false)]
            (by kernel_rfl) (by kernel_rfl) (fun _ _ d _ _ h => by cases d <;> exact h) (Below.refl _ _).drew ?_
          simp only [Seq.lay, List.getElem?_cons_zero, List.getElem?_cons_succ]
          repeat (first
            | (refine Seq.seq_read (v := ?_) (by rfl) ?_ ?_
               rotate_left
               · (intro w' hS; have d0 := (hS.cell (p := ⟨w.heap.size, 11, none⟩) lA).trans cA; have d1 := (hS.cell (p := ⟨w.heap.size + 1, 11, none⟩) lB).trans cB; go_simp; with_reducible rfl)
               simp only [Act.put, List.setIfInBounds_toArray, List.set_cons_zero, List.set_cons_succ]))
          refine Seq.seq_do (by rfl) (fun K hK => ?_)
          go_simp
          have hb7 : Below w.heap.size w wr.drew := hb6.drew
          with_reducible refine (CSV.out _ (hr.at' hb7)).mono ?_
          rintro e w5 ⟨rfl, hs5, b5⟩
          have S5 : Below wr.heap.size wr w5 := (Below.refl _ _).drew.trans b5
          refine hK _ _ S5 ?_
          clear hK K
          have hb8 := below_cat hb7 b5
          refine Seq.seq_do (by rfl) (fun K hK => ?_)
          go_simp
          with_reducible refine (CSU.out _ (hr'.at' hb8)).mono ?_
          rintro e w6 ⟨rfl, hs6, b6⟩
          have S6 : Below wr.heap.size wr w6 := S5.trans (b6.mono S5.size)
          refine hK _ _ S6 ?_
          clear hK K
          have hb9 := below_cat hb8 b6
          have hs5' : SetAt w6 wr.heap.size V.length V := hs5.below b6
          repeat (first
            | (refine Seq.seq_read (v := ?_) (by rfl) ?_ ?_
               rotate_left
               · (intro w' hS; go_simp; with_reducible rfl)
               simp only [Act.put, List.setIfInBounds_toArray, List.set_cons_zero, List.set_cons_succ]))
          refine Seq.seq_nil ?_
          have HO6 := HO4.below S6
          have HZ6 := HZ4.below S6
          have lO := HO4.lt
          have lZ := HZ4.lt
          have l56 : wr.heap.size < w5.heap.size := hs5.lt
          have l66 := hs6.lt
          clear HA4 HB4 cA cB lA lB hb6 hb7 hb8 hs5 S5 CSV CSU HO4 HZ4 b5 b6
          go_wp2_with fail
          have HRF : Hid (r = (m, fun i => keep (P i) (Q i), upto (fun v => keep (V.contains v) (U.contains v)), 0)) := Lib.hid (by rw [← HRES.out, if_neg (by simp), if_neg (by simp)])
          have hrow0 : w6.ownsRow w6.heap.size 3 1 (.slice none 0 0) 0 (intV ((nums.take 0).filter (fun v => keep (V.contains v) (U.contains v)))) := World.ownsRow_nil _ _ _ _
          have zO : O < w6.heap.size := HO6.lt
          have zZ := HZ6.lt
          have hB6 := hb9.size
          have nS1 : wr.heap.size ≠ O := by omega
          have hZO : O ≠ w.heap.size + 1 + 1 := by omega
          have hOB : w.heap.size ≤ O := by omega
          have nS2 : w5.heap.size ≠ O := by omega
          generalize hs1 : wr.heap.size = s1 at hs5' lO lZ l56 nS1 ⊢
          generalize hs2 : w5.heap.size = s2 at hs6 l56 l66 nS2 ⊢
          clear hs1 hs2 S6 lO lZ
          go_loopw [16] (fun i W => ∃ (k : Nat) (vv : Value) (n : Nat), k ≤ 40 ∧ i = .int .i64 ((k : Int) + 1) ∧ n = ((nums.take k).filter (fun v => keep (V.contains v) (U.contains v))).length ∧ ConAt W O m (fun i => keep (P i) (Q i)) vv ∧ W.ownsRow w6.heap.size 3 1 vv n (intV ((nums.take k).filter (fun v => keep (V.contains v) (U.contains v)))) ∧ SetAt W s1 V.length V ∧ SetAt W s2 U.length U ∧ ConAt W (w.heap.size + 1 + 1) 0 (fun _ => false) (.slice none 0 0) ∧ Below w.heap.size w W ∧ w6.heap.size ≤ W.heap.size) (fun i _ => 42 - (intOf i).toNat)
          case atStart => exact ⟨0, _, _, by omega, by simp, rfl, HO6, hrow0, hs5', hs6, HZ6, hb9, Nat.le_refl _⟩
          case round =>
            clear hrow0 HO6 hs5' hs6 HZ6 hb9
            obtain ⟨k, vv, n, hk40, rfl, hnl, hcon, hown, hS1, hS2, hZ, hbl, hsz⟩ := hrel
            have HNL := Lib.hid hnl
            have hn40 : n ≤ 40 := by
              have : nums.length = 40 := by simp [nums]
              rw [hnl]; exact Nat.le_trans (List.length_filter_le _ _) (by rw [List.length_take]; omega)
            clear hnl
            by_cases hlt : k < 40
            · have d0 : (k : Int) + 1 ≤ 40 := by omega
              have hkey : keyOf Try.prog 3 (.int .i64 ((k : Int) + 1)) = some (.int .i64 ((k : Int) + 1)) := keyOf_int_mk Try.underlying3 (WalkArith.wf_i64 (by omega))
              have hh1 := set_has V ((k : Int) + 1)
              have hh2 := set_has U ((k : Int) + 1)
              have htk := nums_at k hlt
              have hfl : ((nums.take (k + 1)).filter (fun v => keep (V.contains v) (U.contains v))) = ((nums.take k).filter (fun v => keep (V.contains v) (U.contains v))) ++ (if keep (V.contains ((k : Int) + 1)) (U.contains ((k : Int) + 1)) then [(k : Int) + 1] else []) := by
                have hf1 : ∀ (f : Int → Bool) (x : Int), [x].filter f = if f x then [x] else [] := fun f x => by cases h : f x <;> simp [h]
                rw [htk, List.filter_append, hf1]
              have CK := HK.out (V.contains ((k : Int) + 1)) (U.contains ((k : Int) + 1))
              generalize V.contains ((k : Int) + 1) = bv at hh1 hfl CK
              generalize U.contains ((k : Int) + 1) = bu at hh2 hfl CK
              generalize keep bv bu = kb at hfl CK
              have CK := Lib.hid CK
              have HFL := Lib.hid hfl
              clear hfl htk
              generalize (nums.take k).filter (fun v => keep (V.contains v) (U.contains v)) = l at HFL hown HNL
              go_wp2_with (first
                | (at_lookup; refine wpList_lookup_own_unit _ rfl _ _ 47 rfl 3 50 lawI Try.underlying47 (zeroU _) s1 V.length _ rfl hS1 _ _ rfl hkey ?_)
                | (at_lookup; refine wpList_lookup_own_unit _ rfl _ _ 47 rfl 3 50 lawI Try.underlying47 (zeroU _) s2 U.length _ rfl (World.ownsMap.alloc hS2 _) _ _ rfl hkey ?_))
              have hE : Below wr.heap.size wr ((wr.alloc (.cells #[] 50)).alloc (.cells #[] 50)) := ((Below.refl _ _).alloc (Nat.le_refl _) _).alloc (by simp) _
              have hzE : wr.heap.size + 2 = ((wr.alloc (.cells #[] 50)).alloc (.cells #[] 50)).heap.size := by simp
              have hcon1 := hcon.below hE
              have hown1 := own_below hown hE
              have hS11 := hS1.below hE
              have hS21 := hS2.below hE
              have hZ1 := hZ.below hE
              have hbl1 := below_cat hbl hE
              clear hcon hown hS1 hS2 hZ hbl hE
              generalize (wr.alloc (.cells #[] 50)).alloc (.cells #[] 50) = W8 at hzE hcon1 hown1 hS11 hS21 hZ1 hbl1 ⊢
              with_reducible refine (CK.out _).mono ?_
              rintro e w9 ⟨rfl, rfl⟩
              cases kb with
              | false =>
                have HF2 : Hid ((nums.take (k + 1)).filter (fun v => keep (V.contains v) (U.contains v)) = l) := Lib.hid (by have := HFL.out; simpa using this)
                clear HFL
                go_wp2_with fail
                go_roundw
                case rel => exact ⟨k + 1, vv, n, by omega, by go_num, by rw [HNL.out, HF2.out], hcon1, by rw [HF2.out]; exact hown1, hS11, hS21, hZ1, hbl1, by omega⟩
                case measure => simp [intOf]; omega
              | true =>
                have HF2 : Hid ((nums.take (k + 1)).filter (fun v => keep (V.contains v) (U.contains v)) = l ++ [(k : Int) + 1]) := Lib.hid (by have := HFL.out; simpa using this)
                have cV := hcon1.at' 11 _ rfl
                have lO := hcon1.lt
                have fO := hcon1.free 11
                clear HFL
                have zW8 : w6.heap.size ≤ (W8.alloc (.cells #[.int .i64 ((k : Int) + 1)] 3)).heap.size := by simp; omega
                have hrowN : Row (W8.alloc (.cells #[.int .i64 ((k : Int) + 1)] 3)) (W8.heap.size + 1) (some ⟨W8.heap.size, 0, none⟩) [.int .i64 ((k : Int) + 1)] := Row.lit W8 _ _ _ (by omega)
                have hn8 : (n + 1) * 8 ≤ 140737488355328 := by omega
                have hn9 : n + 1 ≤ 9223372036854775807 := by omega
                have hown2 := hown1.alloc (.cells #[.int .i64 ((k : Int) + 1)] 3)
                have h1c : ∀ u ∈ [Value.int .i64 ((k : Int) + 1)], u.oneCell' = true := by simp [Value.oneCell']
                have HGO : Hid (∀ wa, (W8.alloc (.cells #[.int .i64 ((k : Int) + 1)] 3)).grownBy wa vv.ownBlock → ConAt wa O m (fun i => keep (P i) (Q i)) vv) := Lib.hid (fun wa ga => (hcon1.alloc (.cells #[.int .i64 ((k : Int) + 1)] 3)).of (ga.block O (by simp; omega) (fun e => by have := (hown2.lt _ e.symm).1; omega)))
                have H8 := Lib.hid hn8; have H9 := Lib.hid hn9; have H1 := Lib.hid h1c; have HRN := Lib.hid hrowN; have HZ8 := Lib.hid zW8
                clear hn8 hn9 h1c hrowN zW8
                go_wp2_with (first
                  | (at_builtin
                     refine app_at elemI rfl (.tmp 84) (.tmp 86) rfl w6.heap.size vv n _ rfl hown2 ⟨W8.heap.size, 0, none⟩ 1 1 [.int .i64 ((k : Int) + 1)] (W8.heap.size + 1) rfl rfl HRN.out H1.out H8.out H9.out HZ8.out ?_
                     intro v' wa oa ga _
                     obtain ⟨gq, capq, rfl⟩ := ownsRow_succ oa
                     have hgO := HGO.out wa ga
                     have cO := hgO.at' 11 _ rfl
                     have fO2 := hgO.free 11
                     have OA := Lib.hid oa
                     have GA := Lib.hid ga
                     have HGO1 := Lib.hid hgO
                     clear oa ga hgO cV fO))
                go_roundw
                case rel =>
                  have hgq : gq ≠ O := by have := (OA.out.lt gq rfl).1; omega
                  have zg := GA.out.size
                  refine ⟨k + 1, .slice (some ⟨gq, 0, none⟩) (n + 1) capq, n + 1, by omega, by go_num, by rw [HF2.out, List.length_append, ← HNL.out]; rfl, HGO1.out.setV _, ?_, ?_, ?_, ?_, ?_, ?_⟩
                  · rw [HF2.out, intV_app]; exact ownsRow_setCell_other OA.out (by simpa [Value.ownBlock] using hgq) _
                  · exact ((hS11.kept (World.grownBy_alloc _ _ none) (by simp)).kept GA.out (fun e => by have := (hown2.lt s1 e.symm).1; omega)).kept (grown_set _ O 11 _) (by simpa using nS1)
                  · exact ((hS21.kept (World.grownBy_alloc _ _ none) (by simp)).kept GA.out (fun e => by have := (hown2.lt s2 e.symm).1; omega)).kept (grown_set _ O 11 _) (by simpa using nS2)
                  · exact ((hZ1.alloc _).of (GA.out.block _ (by have := hZ1.lt; simp; omega) (fun e => by have := (hown2.lt _ e.symm).1; omega))).other (by simpa using hZO) _
                  · exact ((below_new hbl1 _).grown GA.out (below_new hbl1 _).size (fun j e => by have := (hown2.lt j e).1; omega)).setCell (by simp; omega) _
                  · simp at zg ⊢; omega
                case measure => simp [intOf]; omega
            · obtain rfl : k = 40 := by omega
              have htk : nums.take 40 = nums := List.take_of_length_le (by simp [nums])
              rw [htk] at hown HNL
              obtain ⟨Av, cv, rfl, _, _, _⟩ := own_row hown
              obtain ⟨z0, z1, z2, z3, z4, z5, z6, z7, z8, z9, z10, z11⟩ := hcon.all
              obtain ⟨y0, y1, y2, y3, y4, y5, y6, y7, y8, y9, y10, y11⟩ := hZ.all
              have fZ := hZ.free
              have HZS := hZ.store m (fun i => keep (P i) (Q i)) (.slice Av n cv)
              have hKS := storeC_kept wr (w.heap.size + 1 + 1) m (fun i => keep (P i) (Q i)) (.slice Av n cv)
              have hownS := own_lower (a := w.heap.size) (own_kept hown hKS (by omega)) hB6
              have hblS : Below w.heap.size w (storeC wr (w.heap.size + 1 + 1) m (fun i => keep (P i) (Q i)) (.slice Av n cv)) := hbl.trans (hKS.below hbl.size (fun j hj => by omega))
              have HHS := Lib.hid HZS; have HOS := Lib.hid hownS; have HBS := Lib.hid hblS
              clear HZS hKS hownS hblS hown hcon hZ hS1 hS2 hbl
              go_wp2_with fail
              change bodyPost _ _ _ _ _ (storeC wr (w.heap.size + 1 + 1) m (fun i => keep (P i) (Q i)) (.slice Av n cv))
              generalize storeC wr (w.heap.size + 1 + 1) m (fun i => keep (P i) (Q i)) (.slice Av n cv) = W9 at HHS HOS HBS ⊢
              clear z0 z1 z2 z3 z4 z5 z6 z7 z8 z9 z10 z11 y0 y1 y2 y3 y4 y5 y6 y7 y8 y9 y10 y11
              obtain ⟨r0, r1, r2, r3, r4, r5, r6, r7, r8, r9, r10, r11⟩ := HHS.out.all
              rw [HRF.out]
              refine bodyPost_ret (v := .tuple #[.agg (conC m (fun i => keep (P i) (Q i)) (.slice Av n cv)), .int .i64 0]) (by simp [results, Try.results20, go_sem, r0, r1, r2, r3, r4, r5, r6, r7, r8, r9, r10, r11]) rfl ⟨_, rfl, ?_, HBS.out⟩
              have hn9 : n = (upto (fun v => keep (V.contains v) (U.contains v))).length := HNL.out
              show W9.ownsRow w.heap.size 3 1 (.slice Av n cv) (upto (fun v => keep (V.contains v) (U.contains v))).length (intV (upto (fun v => keep (V.contains v) (U.contains v))))
              rw [← hn9]
              exact HOS.out
    · have HR : Hid (r = (0, fun _ => false, [], y)) := Lib.hid (by rw [← HRES.out, if_neg (by simp), if_pos hy])
      obtain ⟨z0, z1, z2, z3, z4, z5, z6, z7, z8, z9, z10, z11⟩ := HZ2.all
      have f := HZ2.free
      have hx0 : ((y : Int) == 0) = false := by rw [beq_eq_false_iff_ne]; omega
      have hx1 : ((y : Int) != 0) = true := by simp; omega
      go_wp2_with fail
      have HE := ends_bad HZ2 hb4 (by omega)
      change bodyPost _ _ _ _ _ (storeC w2 (w.heap.size + 1 + 1) 0 (fun _ => false) (.slice none 0 0))
      obtain ⟨HZ3, hb5⟩ := HE
      generalize storeC w2 (w.heap.size + 1 + 1) 0 (fun _ => false) (.slice none 0 0) = W3 at HZ3 hb5 ⊢
      obtain ⟨r0, r1, r2, r3, r4, r5, r6, r7, r8, r9, r10, r11⟩ := HZ3.all
      rw [HR.out]
      refine bodyPost_ret (v := .tuple #[.agg (conC 0 (fun _ => false) (.slice none 0 0)), .int .i64 (y : Int)]) (by simp [results, Try.results20, go_sem, r0, r1, r2, r3, r4, r5, r6, r7, r8, r9, r10, r11]) rfl ⟨_, rfl, World.ownsRow_nil _ _ _ _, hb5⟩
  · have HR : Hid (r = (0, fun _ => false, [], x)) := Lib.hid (by rw [← HRES.out, if_pos hx])
    obtain ⟨z0, z1, z2, z3, z4, z5, z6, z7, z8, z9, z10, z11⟩ := HZ1.all
    have f := HZ1.free
    have hx0 : ((x : Int) == 0) = false := by rw [beq_eq_false_iff_ne]; omega
    have hx1 : ((x : Int) != 0) = true := by simp; omega
    go_wp2_with fail
    have HE := ends_bad HZ1 hb2 (by omega)
    change bodyPost _ _ _ _ _ (storeC w1 (w.heap.size + 1 + 1) 0 (fun _ => false) (.slice none 0 0))
    obtain ⟨HZ2, hb3⟩ := HE
    generalize storeC w1 (w.heap.size + 1 + 1) 0 (fun _ => false) (.slice none 0 0) = W3 at HZ2 hb3 ⊢
    obtain ⟨r0, r1, r2, r3, r4, r5, r6, r7, r8, r9, r10, r11⟩ := HZ2.all
    rw [HR.out]
    refine bodyPost_ret (v := .tuple #[.agg (conC 0 (fun _ => false) (.slice none 0 0)), .int .i64 (x : Int)]) (by simp [results, Try.results20, go_sem, r0, r1, r2, r3, r4, r5, r6, r7, r8, r9, r10, r11]) rfl ⟨_, rfl, World.ownsRow_nil _ _ _ _, hb3⟩
end Go.Proofs.Ytnjaepdlfnidfaa.GrantB
