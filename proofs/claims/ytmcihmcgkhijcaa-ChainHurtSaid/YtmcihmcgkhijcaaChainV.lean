/- The walk of the law ChainMore. -/
import Derived.Test.YtmcihmcgkhijcaaChainU
import Derived.Test.YtmcihmcgkhijcaaChainA
namespace Go.Proofs.Ytmcihmcgkhijcaa.ChainV
open Go.RowKit ChainW ChainH ChainR ChainD ChainS ChainE ChainB ChainT ChainP ChainA

set_option maxHeartbeats 4000000 in
theorem chainMore_any (A : Option Addr) (c : Nat) (L : List ByteArray) (A' : Option Addr) (c' : Nat) (L' : List ByteArray) (s : ByteArray) (hs : s.size ≤ 140737488351232) (w : World) (H : HS w A c L) (H' : HS w A' c' L') :
    Calls Try.prog 8 #[.slice A L.length c, .slice A' L'.length c', .string s] w (fun e w' => e = .returned (.bool true) ∧ Below w.heap.size w w') := by
  go_enter Try.func8, Try.ntmps8
  go_wp2_with (first
    | (at_builtin
       refine wpList_append_strs rfl _ _ rfl w.heap.size _ 0 [] rfl (World.ownsRow_lit w #[] 0 (Nat.le_refl _) (by decide) rfl) A c L w.heap.size rfl (H.s.below ((Below.refl _ _).alloc (Nat.le_refl _) _)) H.nil (by have := H.m; omega) (by simp) ?_
       intro v1 w1 o1 g1
       have b1 : Below w.heap.size w w1 := ((Below.refl _ w).alloc (Nat.le_refl _) _).grown g1 (by simp) (fun k e => by cases e; exact Nat.le_refl _))
    | (at_builtin
       refine wpList_append_strs rfl _ _ rfl w.heap.size v1 (0 + L.length) _ rfl (o1.alloc _) (some ⟨w1.heap.size, 0, none⟩) 1 [s] (w1.heap.size + 1) rfl (strs_lit w1 9 [s] _ (by omega)) (fun e => by cases e) (by have := H.m; simp; omega) (by have := b1.size; simp; omega) ?_
       intro v2 w2 o2 g2
       have b2 : Below w.heap.size w w2 := (b1.alloc b1.size _).grown g2 (by have := b1.size; simp; omega) (fun k e => (o1.lt k e).1))
    | (at_builtin
       refine wpList_append_strs rfl _ _ rfl w2.heap.size _ 0 [] rfl (World.ownsRow_lit w2 #[] 0 (Nat.le_refl _) (by decide) rfl) A' c' L' w.heap.size rfl (H'.s.below (b2.alloc b2.size _)) H'.nil (by have := H'.m; omega) (by simp) ?_
       intro v3 w3 o3 g3
       have b3 : Below w2.heap.size w2 w3 := ((Below.refl _ w2).alloc (Nat.le_refl _) _).grown g3 (by simp) (fun k e => by cases e; exact Nat.le_refl _))
    | (at_builtin
       refine wpList_append_strs rfl _ _ rfl w2.heap.size v3 (0 + L'.length) _ rfl (o3.alloc _) (some ⟨w3.heap.size, 0, none⟩) 1 [s] (w3.heap.size + 1) rfl (strs_lit w3 9 [s] _ (by omega)) (fun e => by cases e) (by have := H'.m; simp; omega) (by have := b3.size; simp; omega) ?_
       intro v4 w4 o4 g4
       have hX4 : Below w2.heap.size w2 w4 := (b3.alloc b3.size _).grown g4 (by have := b3.size; simp; omega) (fun k e => (o3.lt k e).1)))
  have b4 := b2.trans (hX4.mono b2.size)
  obtain ⟨Ax, cx, rfl, nx, hX⟩ := own_strs (L := L ++ [s]) o2 (by simp)
  obtain ⟨Ay, cy, rfl, ny, hY⟩ := own_strs (L := L' ++ [s]) o4 (by simp)
  have zX : ∀ t ∈ L ++ [s], t.size ≤ 140737488351232 := fun t ht => by
    rcases List.mem_append.1 ht with h | h
    · exact H.z t h
    · simp at h; subst h; exact hs
  have zY : ∀ t ∈ L' ++ [s], t.size ≤ 140737488351232 := fun t ht => by
    rcases List.mem_append.1 ht with h | h
    · exact H'.z t h
    · simp at h; subst h; exact hs
  have CX0 := (fun w' (hb : Below w4.heap.size w4 w') => head_any Ax cx (L ++ [s]) w' (((hX.below hX4).more hX4.size).below hb |>.more hb.size) (by have := H.m; simp; omega) zX)
  have CY0 := (fun w' (hb : Below w4.heap.size w4 w') => head_any Ay cy (L' ++ [s]) w' ((hY.below hb).more hb.size) (by have := H'.m; simp; omega) zY)
  simp only [List.length_append, List.length_cons, List.length_nil, Nat.zero_add] at CX0 CY0
  have CX := Lib.hid CX0
  have CY := Lib.hid CY0
  clear CX0 CY0
  have CA := Lib.hid (fun w' (hb : Below w4.heap.size w4 w') => head_any A c L w' (H.at' (b4.trans (hb.mono b4.size))).s H.n H.z)
  have CB := Lib.hid (fun w' (hb : Below w4.heap.size w4 w') => head_any A' c' L' w' (H'.at' (b4.trans (hb.mono b4.size))).s H'.n H'.z)
  have e1 := head_snoc L s
  have e2 := head_snoc L' s
  have hg := head_lt L
  have hls : (link (head L) s.data.toList).length ≤ 140737488351240 := by rw [link_len, ← Lib.size_eq]; omega
  clear H H' hX hY zX zY o1 o2 o3 o4 g1 g2 g3 g4 hX4
  generalize head (L ++ [s]) = fx at CX e1
  generalize head (L' ++ [s]) = fy at CY e2
  generalize head L = g at CA e1 hg hls
  generalize head L' = g' at CB e2
  have E1 := Lib.hid e1; have E2 := Lib.hid e2; clear e1 e2
  refine (chainBegun_any w4).mono ?_
  rintro e w5 ⟨rfl, B5⟩
  go_wp2_with fail
  refine (CX.out w5 B5).mono ?_
  rintro e w6 ⟨rfl, hb⟩
  have B6 := B5.trans (hb.mono B5.size); clear hb
  go_wp2_with fail
  refine (CA.out w6 B6).mono ?_
  rintro e w7 ⟨rfl, hb⟩
  have B7 := B6.trans (hb.mono B6.size); clear hb
  go_wp2_with fail
  refine (link_any g s w7 hg (by omega)).mono ?_
  rintro e w8 ⟨rfl, hb⟩
  have B8 := B7.trans (hb.mono B7.size); clear hb
  go_wp2_with fail
  refine (hash_any _ w8 (by rw [size_mk]; omega)).mono ?_
  rintro e w9 ⟨rfl, hb⟩
  have B9 := B8.trans (hb.mono B8.size); clear hb
  rw [← E1.out]
  go_wp2_with fail
  refine (CA.out w9 B9).mono ?_
  rintro e w10 ⟨rfl, hb⟩
  have B10 := B9.trans (hb.mono B9.size); clear hb
  go_wp2_with fail
  refine (CB.out w10 B10).mono ?_
  rintro e w11 ⟨rfl, hb⟩
  have B11 := B10.trans (hb.mono B10.size); clear hb
  by_cases hgg : g = g'
  · have hxy : fx = fy := by rw [E1.out, E2.out, hgg]
    subst hgg hxy
    go_wp2_with fail
    refine (CX.out w11 B11).mono ?_
    rintro e w12 ⟨rfl, hb⟩
    have B12 := B11.trans (hb.mono B11.size); clear hb
    go_wp2_with fail
    refine (CY.out w12 B12).mono ?_
    rintro e w13 ⟨rfl, hb⟩
    have B13 := B12.trans (hb.mono B12.size); clear hb
    go_wp2_with fail
    go_ret
    exact ⟨rfl, b4.trans (B13.mono b4.size)⟩
  · go_wp2_with fail
    go_ret
    exact ⟨rfl, b4.trans (B11.mono b4.size)⟩
end Go.Proofs.Ytmcihmcgkhijcaa.ChainV
