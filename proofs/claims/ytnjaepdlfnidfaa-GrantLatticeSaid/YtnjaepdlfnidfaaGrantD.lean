/- The walk of Drop. -/
import Derived.Test.YtnjaepdlfnidfaaGrantC
import Derived.Test.YtnjaepdlfnidfaaGrantLay
import Derived.Sort.OwnSortedInts
namespace Go.Proofs.Ytnjaepdlfnidfaa.GrantD
open Go.RowKit Go.Maps Go.Sort Mem Scan GrantP GrantW GrantX GrantY GrantZ GrantM GrantB GrantC

theorem clone_any (A : Option Addr) (c : Nat) (V : List Int) (w : World) (hr : Row w w.heap.size A (intV V)) (hn : V.length * 8 ≤ 140737488355328) :
    Calls Try.prog 24 #[.slice A V.length c] w (GivesRow w.heap.size 3 V.length (intV V) w) := by
  by_cases h0 : V.length = 0
  · obtain rfl : V = [] := List.eq_nil_of_length_eq_zero h0
    cases A with
    | none => exact (Try.slices_Clone_int_nil 0 c w).mono fun _ _ h => ⟨_, h.1, World.ownsRow_nil _ _ _ _, by rw [h.2]; exact Below.refl _ _⟩
    | some a => exact (Try.slices_Clone_int_zero a c w).mono fun _ _ ⟨v, h1, h2, _, h3⟩ => ⟨v, h1, h2, h3⟩
  · obtain ⟨b, o, rfl, _, hcs⟩ := ints_open hr (by omega)
    refine (Try.slices_Clone_int b o V.length c V w (Nat.le_refl _) hn hcs).mono fun _ _ ⟨v, h1, h2, _, h3⟩ => ⟨v, h1, ?_, h3⟩
    rw [List.take_length] at h2
    exact h2
theorem dropC_any (B : Nat) (v x : Int) (w : World) (hc : w.cell? ⟨B, 0, none⟩ = some (.int .i64 v)) : FnGives Try.prog 25 #[.pointer (some ⟨B, 0, none⟩)] #[.int .i64 x] (.bool (x == v)) w := by
  show Calls Try.prog 25 #[.int .i64 x, .pointer (some ⟨B, 0, none⟩)] w _
  go_enter Try.func25, Try.ntmps25
  go_wp2_with fail
  go_ret
  exact ⟨by simp, 0, rfl⟩
/-- What owns a row: nil, or a block of its own, from its beginning on. -/
theorem own_parts {w : World} {base n : Nat} {e : TypeId} {size : Nat} {v : Value} {xs : List Value} (h : w.ownsRow base e size v n xs) : (v = .slice none 0 0 ∧ n = 0 ∧ xs = []) ∨ ∃ g c, v = .slice (some ⟨g, 0, none⟩) n c ∧ n ≤ c ∧ Row w w.heap.size (some ⟨g, 0, none⟩) xs := by
  have hl : xs.length = n * size := h.1
  have h0 := h
  rcases h.2 with ⟨rfl, h2⟩ | ⟨g, cap, cur, rfl, hg, hh, h4, _⟩
  · subst h2
    exact .inl ⟨rfl, rfl, List.eq_nil_of_length_eq_zero (by rw [hl, Nat.zero_mul])⟩
  · refine .inr ⟨g, cap, rfl, h4, fun _ => ⟨g, 0, rfl, (h.lt g rfl).2, fun j hj => ?_⟩⟩
    rw [Nat.zero_add, h0.cellAt j (by omega)]
    simp [hj]
theorem own_short {w : World} {base g n cap : Nat} {e : TypeId} {xs : List Value} (h : w.ownsRow base e 1 (.slice (some ⟨g, 0, none⟩) n cap) n xs) (k : Nat) (hk : k ≤ n) : w.ownsRow base e 1 (.slice (some ⟨g, 0, none⟩) k cap) k (xs.take k) := by
  have hl : xs.length = n * 1 := h.1
  rcases h.2 with ⟨h1, _⟩ | ⟨g', cap', cur, h1, h2, h3, h4, h5, h6, h7⟩
  · cases h1
  · cases h1
    refine ⟨by rw [List.length_take]; omega, .inr ⟨g, cap, cur, rfl, h2, h3, by omega, h5, h6, ?_⟩⟩
    rw [← h7, List.take_take, Nat.min_eq_left (by omega), Nat.mul_one]
/-- DeleteFunc on a row of the call's own. -/
theorem delete_any (base g cap B : Nat) (V : List Int) (v : Int) (w : World) (hown : w.ownsRow base 3 1 (.slice (some ⟨g, 0, none⟩) V.length cap) V.length (intV V)) (hB : B < w.heap.size) (hg : B ≠ g) (hc : w.cell? ⟨B, 0, none⟩ = some (.int .i64 v)) (hn : V.length ≤ 1152921504606846976) :
    Calls Try.prog 23 #[.slice (some ⟨g, 0, none⟩) V.length cap, .func (.func 25) #[] #[.pointer (some ⟨B, 0, none⟩)]] w
      (fun e w' => e = .returned (.slice (some ⟨g, 0, none⟩) (V.filter (· != v)).length cap) ∧ w'.ownsRow base 3 1 (.slice (some ⟨g, 0, none⟩) (V.filter (· != v)).length cap) (V.filter (· != v)).length (intV (V.filter (· != v))) ∧ w.grownBy w' (some g)) := by
  rcases hown.2 with ⟨h1, _⟩ | ⟨g', cap', cur, h1, h2, h3, h4, h5, h6, h7⟩
  · cases h1
  · cases h1
    have h7' : cur.toList.take V.length = V.map (Value.int .i64) := by simpa [intV] using h7
    have hH := holds_of_blockI h3 h7'
    have eg : ∀ args w, (callFunc 25 args).run Try.prog w = .ok (.enter 25 args) w := enters_of Try.func25 (by kernel_rfl) rfl
    have hcon := AnyE.slices_DeleteFunc Try.laysDel (Value.int .i64) (fun _ => rfl) (fun x => x == v) 25 #[.pointer (some ⟨B, 0, none⟩)] eg 0 Try.zeroValue3 g 0 cap V.toArray w
      (fun W x hb => dropC_any B v x W ((hb.cell (p := ⟨B, 0, none⟩) hB).trans hc))
      (fun n os dk x _ => dropC_any B v x _ (by
        unfold sortWorld
        rw [cell?_grow _ _ _ (by show B < (putRow _ _ _ _ _).heap.size; rw [size_putRow]; exact hB), cell?_putRow_other _ _ g 0 _ _ (Or.inl hg)]
        exact hc)) hH (by simpa using (show V.length ≤ 9223372036854775807 by omega)) (by simpa using h4)
    simp only [List.size_toArray] at hcon
    refine hcon.mono ?_
    rintro e w' ⟨rfl, q, rfl⟩
    have hf : (fun x : Int => !(x == v)) = (fun x => x != v) := by funext x; rfl
    rw [hf]
    have hle : (V.filter (· != v)).length ≤ V.length := List.length_filter_le _ _
    have ho := ownsRow_sortedI (w := w) (n := q) (os := #[]) (ss := V) (ts := V.filter (· != v) ++ List.replicate (V.length - (V.filter (· != v)).length) 0) (by simp; omega) h2 h3 h4 h5 h6
    have hgr := grownBy_sortedI (w := w) (g := g) (n := q) (os := #[]) (V.filter (· != v) ++ List.replicate (V.length - (V.filter (· != v)).length) 0).toArray
    have eg0 : ∀ W : World, grow W #[] = W := fun W => by cases W; simp [grow]
    have e0 : grow (putRow (Value.int .i64) (Sort.ahead w q) g 0 (V.filter (· != v) ++ List.replicate (V.length - (V.filter (· != v)).length) 0).toArray) #[] = putRow (Value.int .i64) (Sort.ahead w q) g 0 (V.filter (· != v) ++ List.replicate (V.length - (V.filter (· != v)).length) 0).toArray := eg0 _
    rw [e0] at ho hgr
    refine ⟨rfl, ?_, hgr⟩
    have hs := own_short ho (V.filter (· != v)).length hle
    rw [← List.map_take, List.take_left] at hs
    exact hs
theorem delete_nil (B : Nat) (w : World) : Calls Try.prog 23 #[.slice none 0 0, .func (.func 25) #[] #[.pointer (some ⟨B, 0, none⟩)]] w (fun e w' => e = .returned (.slice none 0 0) ∧ Below w.heap.size w w') := by
  have CI0 := (indexFunc_any none 0 [] 25 #[.pointer (some ⟨B, 0, none⟩)] (fun _ => false) w (enters_of Try.func25 (by kernel_rfl) rfl) (Row.nil _ _ _) (by decide) (fun W x hx _ => by cases hx))
  simp only [List.length_nil] at CI0
  have CI := Lib.hid CI0
  clear CI0
  go_enter Try.func23, Try.ntmps23
  go_wp2_with fail
  with_reducible refine CI.out.mono ?_
  rintro e w1 ⟨rfl, b1⟩
  have hi : idx (fun _ => false) [] = -1 := rfl
  rw [hi]
  go_wp2_with fail
  go_ret
  exact ⟨rfl, b1⟩
theorem drop_upd (P : Nat → Bool) (i : Nat) : ∀ j, j < 10 → upd P i false j = (P j && !((j : Int) + 1 == (i : Int) + 1)) := fun j _ => by
  unfold upd
  by_cases e : j = i
  · subst e; simp
  · have h : ((j : Int) + 1 == (i : Int) + 1) = false := by rw [beq_eq_false_iff_ne]; omega
    rw [if_neg e, h]; simp
theorem drop_none (P : Nat → Bool) : ∀ j, j < 10 → P j = (P j && !((j : Int) + 1 == (0 : Int))) := fun j _ => by
  have h : ((j : Int) + 1 == (0 : Int)) = false := by rw [beq_eq_false_iff_ne]; omega
  rw [h]; simp
def dropF (g : Int) (P : Nat → Bool) (V : List Int) (p v now : Int) : Int × (Nat → Bool) × List Int × Nat :=
  if check g V ≠ 0 then (0, fun _ => false, [], check g V) else if p < 0 ∨ 10 < p ∨ v < 0 ∨ 40 < v then (0, fun _ => false, [], 3) else if now < g ∨ 68719476735 < now then (0, fun _ => false, [], 4)
  else (now, fun i => P i && !((i : Int) + 1 == p), V.filter (· != v), 0)
/-- How Drop ends where something is not right. -/
theorem drop_bad {W : World} {w : World} {o : Nat} {r : Int × (Nat → Bool) × List Int × Nat} {x : Int} (HZ : ConAt W o 0 (fun _ => false) (.slice none 0 0)) (hb : Below w.heap.size w W) (ho : w.heap.size ≤ o) (hr : r.1 = 0 ∧ r.2.1 = (fun _ => false) ∧ r.2.2.1 = [] ∧ (r.2.2.2 : Int) = x) :
    ConAt (storeC W o 0 (fun _ => false) (.slice none 0 0)) o 0 (fun _ => false) (.slice none 0 0) ∧ ∀ e, e = .returned (.tuple #[.agg (conC 0 (fun _ => false) (.slice none 0 0)), .int .i64 x]) → CPostR r w e (storeC W o 0 (fun _ => false) (.slice none 0 0)) := by
  obtain ⟨h1, h2⟩ := ends_bad HZ hb ho
  obtain ⟨a, b, c, d⟩ := r
  obtain ⟨r1, r2, r3, r4⟩ := hr
  dsimp only at r1 r2 r3 r4
  subst r1 r2 r3 r4
  exact ⟨h1, fun e he => ⟨_, he, World.ownsRow_nil _ _ _ _, h2⟩⟩
set_option maxRecDepth 100000 in
set_option maxHeartbeats 8000000 in
theorem drop_any (g : Int) (P : Nat → Bool) (A : Option Addr) (c : Nat) (V : List Int) (p v now : Int) (w : World) (hr : Row w w.heap.size A (intV V)) (hn : V.length ≤ 1152921504606846976) :
    Calls Try.prog 9 #[conV g P A V.length c, .int .i64 p, .int .i64 v, .int .i64 now] w (CPostR (dropF g P V p v now) w) := by
  have CC := Lib.hid (fun w' h => check_any g P A c V w' h (by omega))
  obtain ⟨r, hres⟩ : ∃ r, dropF g P V p v now = r := ⟨_, rfl⟩
  rw [hres]
  unfold dropF at hres
  have hlenV : check g V = 0 → V.length ≤ 40 := fun h => right_len (right_of (check_zero h).2)
  generalize check g V = x at CC hres hlenV
  have HLV := Lib.hid hlenV
  have HRES := Lib.hid hres
  clear hres hlenV
  go_enter Try.func9, Try.ntmps9
  have HA := ((ConAt.new w g P (.slice A V.length c)).alloc (.cells #[.int .i64 v] 3)).alloc (.cells (conC 0 (fun _ => false) (.slice none 0 0)) 25)
  have HZ := ConAt.new ((w.alloc (.cells (conC g P (.slice A V.length c)) 25)).alloc (.cells #[.int .i64 v] 3)) 0 (fun _ => false) (.slice none 0 0)
  have HV : (((w.alloc (.cells (conC g P (.slice A V.length c)) 25)).alloc (.cells #[.int .i64 v] 3)).alloc (.cells (conC 0 (fun _ => false) (.slice none 0 0)) 25)).heap[w.heap.size + 1]? = some (.cells #[.int .i64 v] 3 (0, 0)) := by
    rw [Below.heap_alloc _ _ _ (by simp)]
    have h := heap_alloc_new (w.alloc (.cells (conC g P (.slice A V.length c)) 25)) (.cells #[.int .i64 v] 3)
    rw [World.size_alloc] at h
    exact h
  have hb : Below w.heap.size w (((w.alloc (.cells (conC g P (.slice A V.length c)) 25)).alloc (.cells #[.int .i64 v] 3)).alloc (.cells (conC 0 (fun _ => false) (.slice none 0 0)) 25)) := (((Below.refl _ w).alloc (Nat.le_refl _) _).alloc (by simp) _).alloc (by simp; omega) _
  rw [World.size_alloc, World.size_alloc] at HZ
  go_wp2_with fail
  with_reducible refine (CC.out _ (hr.at' hb)).mono ?_
  rintro e w1 ⟨rfl, b1⟩
  have HA1 := HA.below b1
  have HZ1 := HZ.below b1
  have hsz3 : w.heap.size + 2 < (((w.alloc (.cells (conC g P (.slice A V.length c)) 25)).alloc (.cells #[.int .i64 v] 3)).alloc (.cells (conC 0 (fun _ => false) (.slice none 0 0)) 25)).heap.size := by simp
  have HV1 : w1.heap[w.heap.size + 1]? = some (.cells #[.int .i64 v] 3 (0, 0)) := (b1.block _ (by omega)).trans HV
  have hb1 := below_cat hb b1
  have cv : w1.cell? ⟨w.heap.size + 1, 0, none⟩ = some (.int .i64 v) := by simp [World.cell?, HV1]
  have cg := HA1.at' 0 _ rfl
  have HVV := Lib.hid HV1
  clear HA HZ HV HV1 hb b1 CC hsz3
  obtain ⟨z0, z1, z2, z3, z4, z5, z6, z7, z8, z9, z10, z11⟩ := HZ1.all
  have f := HZ1.free
  by_cases hx : x = 0
  · subst hx
    have lV := HLV.out (by simp)
    by_cases hbad : p < 0 ∨ 10 < p ∨ v < 0 ∨ 40 < v
    · have hR : r = (0, fun _ => false, [], 3) := by rw [← HRES.out, if_neg (by simp), if_pos hbad]
      have HE := drop_bad (r := r) (x := 3) HZ1 hb1 (by omega) (by rw [hR]; exact ⟨rfl, rfl, rfl, rfl⟩)
      have HE := Lib.hid HE
      clear hR HRES
      by_cases p1 : p < 0
      · have d1 : decide (p < 0) = true := decide_eq_true p1
        clear hbad
        go_wp2_with fail
        change bodyPost _ _ _ _ _ (storeC w1 (w.heap.size + 1 + 1) 0 (fun _ => false) (.slice none 0 0))
        obtain ⟨HZ2, hpost⟩ := HE.out
        generalize storeC w1 (w.heap.size + 1 + 1) 0 (fun _ => false) (.slice none 0 0) = W3 at HZ2 hpost ⊢
        obtain ⟨r0, r1, r2, r3, r4, r5, r6, r7, r8, r9, r10, r11⟩ := HZ2.all
        refine bodyPost_ret (v := .tuple #[.agg (conC 0 (fun _ => false) (.slice none 0 0)), .int .i64 3]) (by simp [results, Try.results9, go_sem, r0, r1, r2, r3, r4, r5, r6, r7, r8, r9, r10, r11]) rfl (hpost _ rfl)
      · have d1 : decide (p < 0) = false := decide_eq_false p1
        by_cases p2 : 10 < p
        · have d2 : decide (10 < p) = true := decide_eq_true p2
          clear hbad
          go_wp2_with fail
          change bodyPost _ _ _ _ _ (storeC w1 (w.heap.size + 1 + 1) 0 (fun _ => false) (.slice none 0 0))
          obtain ⟨HZ2, hpost⟩ := HE.out
          generalize storeC w1 (w.heap.size + 1 + 1) 0 (fun _ => false) (.slice none 0 0) = W3 at HZ2 hpost ⊢
          obtain ⟨r0, r1, r2, r3, r4, r5, r6, r7, r8, r9, r10, r11⟩ := HZ2.all
          refine bodyPost_ret (v := .tuple #[.agg (conC 0 (fun _ => false) (.slice none 0 0)), .int .i64 3]) (by simp [results, Try.results9, go_sem, r0, r1, r2, r3, r4, r5, r6, r7, r8, r9, r10, r11]) rfl (hpost _ rfl)
        · have d2 : decide (10 < p) = false := decide_eq_false p2
          by_cases v1 : v < 0
          · have d3 : decide (v < 0) = true := decide_eq_true v1
            clear hbad
            go_wp2_with fail
            change bodyPost _ _ _ _ _ (storeC w1 (w.heap.size + 1 + 1) 0 (fun _ => false) (.slice none 0 0))
            obtain ⟨HZ2, hpost⟩ := HE.out
            generalize storeC w1 (w.heap.size + 1 + 1) 0 (fun _ => false) (.slice none 0 0) = W3 at HZ2 hpost ⊢
            obtain ⟨r0, r1, r2, r3, r4, r5, r6, r7, r8, r9, r10, r11⟩ := HZ2.all
            refine bodyPost_ret (v := .tuple #[.agg (conC 0 (fun _ => false) (.slice none 0 0)), .int .i64 3]) (by simp [results, Try.results9, go_sem, r0, r1, r2, r3, r4, r5, r6, r7, r8, r9, r10, r11]) rfl (hpost _ rfl)
          · have d3 : decide (v < 0) = false := decide_eq_false v1
            have v2 : 40 < v := by omega
            have d4 : decide (40 < v) = true := decide_eq_true v2
            clear hbad
            go_wp2_with fail
            change bodyPost _ _ _ _ _ (storeC w1 (w.heap.size + 1 + 1) 0 (fun _ => false) (.slice none 0 0))
            obtain ⟨HZ2, hpost⟩ := HE.out
            generalize storeC w1 (w.heap.size + 1 + 1) 0 (fun _ => false) (.slice none 0 0) = W3 at HZ2 hpost ⊢
            obtain ⟨r0, r1, r2, r3, r4, r5, r6, r7, r8, r9, r10, r11⟩ := HZ2.all
            refine bodyPost_ret (v := .tuple #[.agg (conC 0 (fun _ => false) (.slice none 0 0)), .int .i64 3]) (by simp [results, Try.results9, go_sem, r0, r1, r2, r3, r4, r5, r6, r7, r8, r9, r10, r11]) rfl (hpost _ rfl)
    · have d1 : decide (p < 0) = false := decide_eq_false (by omega)
      have d2 : decide (10 < p) = false := decide_eq_false (by omega)
      have d3 : decide (v < 0) = false := decide_eq_false (by omega)
      have d4 : decide (40 < v) = false := decide_eq_false (by omega)
      have hp0 : 0 ≤ p := by omega
      have hp1 : p ≤ 10 := by omega
      by_cases hbad2 : now < g ∨ 68719476735 < now
      · have hR : r = (0, fun _ => false, [], 4) := by rw [← HRES.out, if_neg (by simp), if_neg hbad, if_pos hbad2]
        have HE := drop_bad (r := r) (x := 4) HZ1 hb1 (by omega) (by rw [hR]; exact ⟨rfl, rfl, rfl, rfl⟩)
        have HE := Lib.hid HE
        clear hR HRES hbad
        by_cases n1 : now < g
        · have d5 : decide (now < g) = true := decide_eq_true n1
          clear hbad2
          go_wp2_with fail
          change bodyPost _ _ _ _ _ (storeC w1 (w.heap.size + 1 + 1) 0 (fun _ => false) (.slice none 0 0))
          obtain ⟨HZ2, hpost⟩ := HE.out
          generalize storeC w1 (w.heap.size + 1 + 1) 0 (fun _ => false) (.slice none 0 0) = W3 at HZ2 hpost ⊢
          obtain ⟨r0, r1, r2, r3, r4, r5, r6, r7, r8, r9, r10, r11⟩ := HZ2.all
          refine bodyPost_ret (v := .tuple #[.agg (conC 0 (fun _ => false) (.slice none 0 0)), .int .i64 4]) (by simp [results, Try.results9, go_sem, r0, r1, r2, r3, r4, r5, r6, r7, r8, r9, r10, r11]) rfl (hpost _ rfl)
        · have d5 : decide (now < g) = false := decide_eq_false n1
          have n2 : 68719476735 < now := by omega
          have d6 : decide (68719476735 < now) = true := decide_eq_true n2
          clear hbad2
          go_wp2_with fail
          change bodyPost _ _ _ _ _ (storeC w1 (w.heap.size + 1 + 1) 0 (fun _ => false) (.slice none 0 0))
          obtain ⟨HZ2, hpost⟩ := HE.out
          generalize storeC w1 (w.heap.size + 1 + 1) 0 (fun _ => false) (.slice none 0 0) = W3 at HZ2 hpost ⊢
          obtain ⟨r0, r1, r2, r3, r4, r5, r6, r7, r8, r9, r10, r11⟩ := HZ2.all
          refine bodyPost_ret (v := .tuple #[.agg (conC 0 (fun _ => false) (.slice none 0 0)), .int .i64 4]) (by simp [results, Try.results9, go_sem, r0, r1, r2, r3, r4, r5, r6, r7, r8, r9, r10, r11]) rfl (hpost _ rfl)
      · have d5 : decide (now < g) = false := decide_eq_false (by omega)
        have d6 : decide (68719476735 < now) = false := decide_eq_false (by omega)
        have HR : Hid (r = (now, fun i => P i && !((i : Int) + 1 == p), V.filter (· != v), 0)) := Lib.hid (by rw [← HRES.out, if_neg (by simp), if_neg hbad, if_neg hbad2])
        clear HRES hbad hbad2
        have cS := HA1.at' 11 _ rfl
        have fA := HA1.free
        by_cases p0 : p = 0
        · subst p0
          go_wp2_with fail
          have HA2 : ConAt (w1.setCell ⟨w.heap.size, 0, none⟩ (.int .i64 now)) w.heap.size now (P) (.slice A V.length c) := HA1.setG now
          have HZ2 : ConAt (w1.setCell ⟨w.heap.size, 0, none⟩ (.int .i64 now)) (w.heap.size + 1 + 1) 0 (fun _ => false) (.slice none 0 0) := HZ1.other (by simp; omega) _
          have cv2 : (w1.setCell ⟨w.heap.size, 0, none⟩ (.int .i64 now)).cell? ⟨w.heap.size + 1, 0, none⟩ = some (.int .i64 v) := by rw [World.cell?_setCell_other _ _ _ _ (by simp)]; exact cv
          have hb2 : Below w.heap.size w (w1.setCell ⟨w.heap.size, 0, none⟩ (.int .i64 now)) := hb1.setCell (by simp) _
          have CL := Lib.hid (fun w' h => clone_any A c V w' h (by omega))
          clear cS HA1 HZ1 hb1 cv cg f fA z0 z1 z2 z3 z4 z5 z6 z7 z8 z9 z10 z11
          generalize (w1.setCell ⟨w.heap.size, 0, none⟩ (.int .i64 now)) = W2 at HA2 HZ2 cv2 hb2 ⊢
          with_reducible refine (CL.out _ (hr.at' hb2)).mono ?_
          rintro e w4 ⟨v3, rfl, own3, b3⟩
          have HA4 := HA2.below b3
          have HZ4 := HZ2.below b3
          have lZ2 := HZ2.lt
          have cv4 := (b3.cell (p := ⟨w.heap.size + 1, 0, none⟩) (show w.heap.size + 1 < W2.heap.size by omega)).trans cv2
          have hb4 := below_cat hb2 b3
          have lZ4 := HZ4.lt
          have cA4 := HA4.at' 11 _ rfl
          rcases own_parts own3 with ⟨rfl, h0, hnil⟩ | ⟨gq, cq, rfl, hcap, _⟩
          · obtain rfl : V = [] := List.eq_nil_of_length_eq_zero h0
            have CD := Lib.hid (delete_nil (w.heap.size + 1) w4)
            go_wp2_with fail
            with_reducible refine CD.out.mono ?_
            rintro e w5 ⟨rfl, b5⟩
            have HA5 := HA4.below b5
            have HZ5 := HZ4.below b5
            have hb5 := below_cat hb4 b5
            have own5 := own_below own3 b5
            obtain ⟨y0, y1, y2, y3, y4, y5, y6, y7, y8, y9, y10, y11⟩ := HZ5.all
            obtain ⟨x0, x1, x2, x3, x4, x5, x6, x7, x8, x9, x10, x11⟩ := HA5.all
            have fA5 := HA5.free
            have fZ5 := HZ5.free
            have lA5 := HA5.lt
            have HW := (HZ5.other (q := ⟨w.heap.size, 11, none⟩) (by simp; omega) (.slice none 0 0)).store now (P) (.slice none 0 0)
            have hKS := storeC_kept (w5.setCell ⟨w.heap.size, 11, none⟩ (.slice none 0 0)) (w.heap.size + 1 + 1) now (P) (.slice none 0 0)
            have hbl5 : Below w.heap.size w (w5.setCell ⟨w.heap.size, 11, none⟩ (.slice none 0 0)) := hb5.setCell (by simp) _
            have hblS : Below w.heap.size w (storeC (w5.setCell ⟨w.heap.size, 11, none⟩ (.slice none 0 0)) (w.heap.size + 1 + 1) now (P) (.slice none 0 0)) := hbl5.trans (hKS.below hbl5.size (fun j hj => by omega))
            have hownS := own_lower (a := w.heap.size) (own_kept (ownsRow_setCell_other own5 (a := ⟨w.heap.size, 11, none⟩) (fun e => by have h9 : W2.heap.size ≤ w.heap.size := (own5.lt _ e).1; omega) (.slice none 0 0)) hKS (by omega)) (by omega)
            have HHS := Lib.hid (HW.congr (Q := fun j => P j && !((j : Int) + 1 == (0 : Int))) (drop_none P)); have HOS := Lib.hid hownS; have HBS := Lib.hid hblS
            clear HW hKS hbl5 hblS hownS own5 hb5 HA5 HZ5
            go_wp2_with fail
            change bodyPost _ _ _ _ _ (storeC (w5.setCell ⟨w.heap.size, 11, none⟩ (.slice none 0 0)) (w.heap.size + 1 + 1) now (P) (.slice none 0 0))
            generalize storeC (w5.setCell ⟨w.heap.size, 11, none⟩ (.slice none 0 0)) (w.heap.size + 1 + 1) now (P) (.slice none 0 0) = W9 at HHS HOS HBS ⊢
            clear y0 y1 y2 y3 y4 y5 y6 y7 y8 y9 y10 y11 x0 x1 x2 x3 x4 x5 x6 x7 x8 x9 x10 x11
            obtain ⟨r0, r1, r2, r3, r4, r5, r6, r7, r8, r9, r10, r11⟩ := HHS.out.all
            rw [HR.out]
            refine bodyPost_ret (v := .tuple #[.agg (conC now (fun j => P j && !((j : Int) + 1 == (0 : Int))) (.slice none 0 0)), .int .i64 0]) (by simp [results, Try.results9, go_sem, r0, r1, r2, r3, r4, r5, r6, r7, r8, r9, r10, r11]) rfl ⟨_, rfl, HOS.out, HBS.out⟩

          · have lg := (own3.lt gq rfl).1
            have CD := Lib.hid (delete_any W2.heap.size gq cq (w.heap.size + 1) V v w4 own3 (by omega) (by omega) cv4 (by omega))
            generalize hFV : V.filter (· != v) = FV at CD HR
            go_wp2_with fail
            with_reducible refine CD.out.mono ?_
            rintro e w5 ⟨rfl, own5, g5⟩
            have HA5 := HA4.of (g5.block _ HA4.lt (fun e => by cases e; omega))
            have HZ5 := HZ4.of (g5.block _ HZ4.lt (fun e => by cases e; omega))
            have hb5 := hb4.grown g5 hb4.size (fun j e => by cases e; omega)
            obtain ⟨y0, y1, y2, y3, y4, y5, y6, y7, y8, y9, y10, y11⟩ := HZ5.all
            obtain ⟨x0, x1, x2, x3, x4, x5, x6, x7, x8, x9, x10, x11⟩ := HA5.all
            have fA5 := HA5.free
            have fZ5 := HZ5.free
            have lA5 := HA5.lt
            have HW := (HZ5.other (q := ⟨w.heap.size, 11, none⟩) (by simp; omega) (.slice (some ⟨gq, 0, none⟩) FV.length cq)).store now (P) (.slice (some ⟨gq, 0, none⟩) FV.length cq)
            have hKS := storeC_kept (w5.setCell ⟨w.heap.size, 11, none⟩ (.slice (some ⟨gq, 0, none⟩) FV.length cq)) (w.heap.size + 1 + 1) now (P) (.slice (some ⟨gq, 0, none⟩) FV.length cq)
            have hbl5 : Below w.heap.size w (w5.setCell ⟨w.heap.size, 11, none⟩ (.slice (some ⟨gq, 0, none⟩) FV.length cq)) := hb5.setCell (by simp) _
            have hblS : Below w.heap.size w (storeC (w5.setCell ⟨w.heap.size, 11, none⟩ (.slice (some ⟨gq, 0, none⟩) FV.length cq)) (w.heap.size + 1 + 1) now (P) (.slice (some ⟨gq, 0, none⟩) FV.length cq)) := hbl5.trans (hKS.below hbl5.size (fun j hj => by omega))
            have hownS := own_lower (a := w.heap.size) (own_kept (ownsRow_setCell_other own5 (a := ⟨w.heap.size, 11, none⟩) (fun e => by have h9 : W2.heap.size ≤ w.heap.size := (own5.lt _ e).1; omega) (.slice (some ⟨gq, 0, none⟩) FV.length cq)) hKS (by omega)) (by omega)
            have HHS := Lib.hid (HW.congr (Q := fun j => P j && !((j : Int) + 1 == (0 : Int))) (drop_none P)); have HOS := Lib.hid hownS; have HBS := Lib.hid hblS
            clear HW hKS hbl5 hblS hownS own5 hb5 HA5 HZ5
            go_wp2_with fail
            change bodyPost _ _ _ _ _ (storeC (w5.setCell ⟨w.heap.size, 11, none⟩ (.slice (some ⟨gq, 0, none⟩) FV.length cq)) (w.heap.size + 1 + 1) now (P) (.slice (some ⟨gq, 0, none⟩) FV.length cq))
            generalize storeC (w5.setCell ⟨w.heap.size, 11, none⟩ (.slice (some ⟨gq, 0, none⟩) FV.length cq)) (w.heap.size + 1 + 1) now (P) (.slice (some ⟨gq, 0, none⟩) FV.length cq) = W9 at HHS HOS HBS ⊢
            clear y0 y1 y2 y3 y4 y5 y6 y7 y8 y9 y10 y11 x0 x1 x2 x3 x4 x5 x6 x7 x8 x9 x10 x11
            obtain ⟨r0, r1, r2, r3, r4, r5, r6, r7, r8, r9, r10, r11⟩ := HHS.out.all
            rw [HR.out]
            refine bodyPost_ret (v := .tuple #[.agg (conC now (fun j => P j && !((j : Int) + 1 == (0 : Int))) (.slice (some ⟨gq, 0, none⟩) FV.length cq)), .int .i64 0]) (by simp [results, Try.results9, go_sem, r0, r1, r2, r3, r4, r5, r6, r7, r8, r9, r10, r11]) rfl ⟨_, rfl, HOS.out, HBS.out⟩


        · obtain ⟨i, rfl⟩ : ∃ i : Nat, p = (i : Int) + 1 := ⟨(p - 1).toNat, by omega⟩
          have i10 : i < 10 := by omega
          have d7 : (i : Int) < 10 := by omega
          have cP := HA1.b i i10
          go_wp2_with fail
          have HA2 : ConAt ((w1.setCell ⟨w.heap.size, 1 + i, none⟩ (.bool false)).setCell ⟨w.heap.size, 0, none⟩ (.int .i64 now)) w.heap.size now (upd P i false) (.slice A V.length c) := (HA1.setB i i10 false).setG now
          have HZ2 : ConAt ((w1.setCell ⟨w.heap.size, 1 + i, none⟩ (.bool false)).setCell ⟨w.heap.size, 0, none⟩ (.int .i64 now)) (w.heap.size + 1 + 1) 0 (fun _ => false) (.slice none 0 0) := (HZ1.other (by simp; omega) _).other (by simp; omega) _
          have cv2 : ((w1.setCell ⟨w.heap.size, 1 + i, none⟩ (.bool false)).setCell ⟨w.heap.size, 0, none⟩ (.int .i64 now)).cell? ⟨w.heap.size + 1, 0, none⟩ = some (.int .i64 v) := by rw [World.cell?_setCell_other _ _ _ _ (by simp), World.cell?_setCell_other _ _ _ _ (by simp)]; exact cv
          have hb2 : Below w.heap.size w ((w1.setCell ⟨w.heap.size, 1 + i, none⟩ (.bool false)).setCell ⟨w.heap.size, 0, none⟩ (.int .i64 now)) := (hb1.setCell (by simp) _).setCell (by simp) _
          have CL := Lib.hid (fun w' h => clone_any A c V w' h (by omega))
          clear cP cS HA1 HZ1 hb1 cv cg f fA z0 z1 z2 z3 z4 z5 z6 z7 z8 z9 z10 z11
          generalize ((w1.setCell ⟨w.heap.size, 1 + i, none⟩ (.bool false)).setCell ⟨w.heap.size, 0, none⟩ (.int .i64 now)) = W2 at HA2 HZ2 cv2 hb2 ⊢
          with_reducible refine (CL.out _ (hr.at' hb2)).mono ?_
          rintro e w4 ⟨v3, rfl, own3, b3⟩
          have HA4 := HA2.below b3
          have HZ4 := HZ2.below b3
          have lZ2 := HZ2.lt
          have cv4 := (b3.cell (p := ⟨w.heap.size + 1, 0, none⟩) (show w.heap.size + 1 < W2.heap.size by omega)).trans cv2
          have hb4 := below_cat hb2 b3
          have lZ4 := HZ4.lt
          have cA4 := HA4.at' 11 _ rfl
          rcases own_parts own3 with ⟨rfl, h0, hnil⟩ | ⟨gq, cq, rfl, hcap, _⟩
          · obtain rfl : V = [] := List.eq_nil_of_length_eq_zero h0
            have CD := Lib.hid (delete_nil (w.heap.size + 1) w4)
            go_wp2_with fail
            with_reducible refine CD.out.mono ?_
            rintro e w5 ⟨rfl, b5⟩
            have HA5 := HA4.below b5
            have HZ5 := HZ4.below b5
            have hb5 := below_cat hb4 b5
            have own5 := own_below own3 b5
            obtain ⟨y0, y1, y2, y3, y4, y5, y6, y7, y8, y9, y10, y11⟩ := HZ5.all
            obtain ⟨x0, x1, x2, x3, x4, x5, x6, x7, x8, x9, x10, x11⟩ := HA5.all
            have fA5 := HA5.free
            have fZ5 := HZ5.free
            have lA5 := HA5.lt
            have HW := (HZ5.other (q := ⟨w.heap.size, 11, none⟩) (by simp; omega) (.slice none 0 0)).store now (upd P i false) (.slice none 0 0)
            have hKS := storeC_kept (w5.setCell ⟨w.heap.size, 11, none⟩ (.slice none 0 0)) (w.heap.size + 1 + 1) now (upd P i false) (.slice none 0 0)
            have hbl5 : Below w.heap.size w (w5.setCell ⟨w.heap.size, 11, none⟩ (.slice none 0 0)) := hb5.setCell (by simp) _
            have hblS : Below w.heap.size w (storeC (w5.setCell ⟨w.heap.size, 11, none⟩ (.slice none 0 0)) (w.heap.size + 1 + 1) now (upd P i false) (.slice none 0 0)) := hbl5.trans (hKS.below hbl5.size (fun j hj => by omega))
            have hownS := own_lower (a := w.heap.size) (own_kept (ownsRow_setCell_other own5 (a := ⟨w.heap.size, 11, none⟩) (fun e => by have h9 : W2.heap.size ≤ w.heap.size := (own5.lt _ e).1; omega) (.slice none 0 0)) hKS (by omega)) (by omega)
            have HHS := Lib.hid (HW.congr (Q := fun j => P j && !((j : Int) + 1 == (i : Int) + 1)) (drop_upd P i)); have HOS := Lib.hid hownS; have HBS := Lib.hid hblS
            clear HW hKS hbl5 hblS hownS own5 hb5 HA5 HZ5
            go_wp2_with fail
            change bodyPost _ _ _ _ _ (storeC (w5.setCell ⟨w.heap.size, 11, none⟩ (.slice none 0 0)) (w.heap.size + 1 + 1) now (upd P i false) (.slice none 0 0))
            generalize storeC (w5.setCell ⟨w.heap.size, 11, none⟩ (.slice none 0 0)) (w.heap.size + 1 + 1) now (upd P i false) (.slice none 0 0) = W9 at HHS HOS HBS ⊢
            clear y0 y1 y2 y3 y4 y5 y6 y7 y8 y9 y10 y11 x0 x1 x2 x3 x4 x5 x6 x7 x8 x9 x10 x11
            obtain ⟨r0, r1, r2, r3, r4, r5, r6, r7, r8, r9, r10, r11⟩ := HHS.out.all
            rw [HR.out]
            refine bodyPost_ret (v := .tuple #[.agg (conC now (fun j => P j && !((j : Int) + 1 == (i : Int) + 1)) (.slice none 0 0)), .int .i64 0]) (by simp [results, Try.results9, go_sem, r0, r1, r2, r3, r4, r5, r6, r7, r8, r9, r10, r11]) rfl ⟨_, rfl, HOS.out, HBS.out⟩

          · have lg := (own3.lt gq rfl).1
            have CD := Lib.hid (delete_any W2.heap.size gq cq (w.heap.size + 1) V v w4 own3 (by omega) (by omega) cv4 (by omega))
            generalize hFV : V.filter (· != v) = FV at CD HR
            go_wp2_with fail
            with_reducible refine CD.out.mono ?_
            rintro e w5 ⟨rfl, own5, g5⟩
            have HA5 := HA4.of (g5.block _ HA4.lt (fun e => by cases e; omega))
            have HZ5 := HZ4.of (g5.block _ HZ4.lt (fun e => by cases e; omega))
            have hb5 := hb4.grown g5 hb4.size (fun j e => by cases e; omega)
            obtain ⟨y0, y1, y2, y3, y4, y5, y6, y7, y8, y9, y10, y11⟩ := HZ5.all
            obtain ⟨x0, x1, x2, x3, x4, x5, x6, x7, x8, x9, x10, x11⟩ := HA5.all
            have fA5 := HA5.free
            have fZ5 := HZ5.free
            have lA5 := HA5.lt
            have HW := (HZ5.other (q := ⟨w.heap.size, 11, none⟩) (by simp; omega) (.slice (some ⟨gq, 0, none⟩) FV.length cq)).store now (upd P i false) (.slice (some ⟨gq, 0, none⟩) FV.length cq)
            have hKS := storeC_kept (w5.setCell ⟨w.heap.size, 11, none⟩ (.slice (some ⟨gq, 0, none⟩) FV.length cq)) (w.heap.size + 1 + 1) now (upd P i false) (.slice (some ⟨gq, 0, none⟩) FV.length cq)
            have hbl5 : Below w.heap.size w (w5.setCell ⟨w.heap.size, 11, none⟩ (.slice (some ⟨gq, 0, none⟩) FV.length cq)) := hb5.setCell (by simp) _
            have hblS : Below w.heap.size w (storeC (w5.setCell ⟨w.heap.size, 11, none⟩ (.slice (some ⟨gq, 0, none⟩) FV.length cq)) (w.heap.size + 1 + 1) now (upd P i false) (.slice (some ⟨gq, 0, none⟩) FV.length cq)) := hbl5.trans (hKS.below hbl5.size (fun j hj => by omega))
            have hownS := own_lower (a := w.heap.size) (own_kept (ownsRow_setCell_other own5 (a := ⟨w.heap.size, 11, none⟩) (fun e => by have h9 : W2.heap.size ≤ w.heap.size := (own5.lt _ e).1; omega) (.slice (some ⟨gq, 0, none⟩) FV.length cq)) hKS (by omega)) (by omega)
            have HHS := Lib.hid (HW.congr (Q := fun j => P j && !((j : Int) + 1 == (i : Int) + 1)) (drop_upd P i)); have HOS := Lib.hid hownS; have HBS := Lib.hid hblS
            clear HW hKS hbl5 hblS hownS own5 hb5 HA5 HZ5
            go_wp2_with fail
            change bodyPost _ _ _ _ _ (storeC (w5.setCell ⟨w.heap.size, 11, none⟩ (.slice (some ⟨gq, 0, none⟩) FV.length cq)) (w.heap.size + 1 + 1) now (upd P i false) (.slice (some ⟨gq, 0, none⟩) FV.length cq))
            generalize storeC (w5.setCell ⟨w.heap.size, 11, none⟩ (.slice (some ⟨gq, 0, none⟩) FV.length cq)) (w.heap.size + 1 + 1) now (upd P i false) (.slice (some ⟨gq, 0, none⟩) FV.length cq) = W9 at HHS HOS HBS ⊢
            clear y0 y1 y2 y3 y4 y5 y6 y7 y8 y9 y10 y11 x0 x1 x2 x3 x4 x5 x6 x7 x8 x9 x10 x11
            obtain ⟨r0, r1, r2, r3, r4, r5, r6, r7, r8, r9, r10, r11⟩ := HHS.out.all
            rw [HR.out]
            refine bodyPost_ret (v := .tuple #[.agg (conC now (fun j => P j && !((j : Int) + 1 == (i : Int) + 1)) (.slice (some ⟨gq, 0, none⟩) FV.length cq)), .int .i64 0]) (by simp [results, Try.results9, go_sem, r0, r1, r2, r3, r4, r5, r6, r7, r8, r9, r10, r11]) rfl ⟨_, rfl, HOS.out, HBS.out⟩


  · have hR : r = (0, fun _ => false, [], x) := by rw [← HRES.out, if_pos hx]
    have hx0 : ((x : Int) == 0) = false := by rw [beq_eq_false_iff_ne]; omega
    have hx1 : ((x : Int) != 0) = true := by simp; omega
    have HE := drop_bad (r := r) (x := x) HZ1 hb1 (by omega) (by rw [hR]; exact ⟨rfl, rfl, rfl, rfl⟩)
    have HE := Lib.hid HE
    clear hR HRES
    go_wp2_with fail
    change bodyPost _ _ _ _ _ (storeC w1 (w.heap.size + 1 + 1) 0 (fun _ => false) (.slice none 0 0))
    obtain ⟨HZ2, hpost⟩ := HE.out
    generalize storeC w1 (w.heap.size + 1 + 1) 0 (fun _ => false) (.slice none 0 0) = W3 at HZ2 hpost ⊢
    obtain ⟨r0, r1, r2, r3, r4, r5, r6, r7, r8, r9, r10, r11⟩ := HZ2.all
    refine bodyPost_ret (v := .tuple #[.agg (conC 0 (fun _ => false) (.slice none 0 0)), .int .i64 (x : Int)]) (by simp [results, Try.results9, go_sem, r0, r1, r2, r3, r4, r5, r6, r7, r8, r9, r10, r11]) rfl (hpost _ rfl)
end Go.Proofs.Ytnjaepdlfnidfaa.GrantD
