/- The walk of the law ChainSame. -/
import Derived.Test.YtmcihmcgkhijcaaChainT
import Derived.Test.YtmcihmcgkhijcaaChainP
namespace Go.Proofs.Ytmcihmcgkhijcaa.ChainU
open Go.RowKit ChainW ChainH ChainR ChainD ChainS ChainE ChainB ChainT ChainP

theorem colR_size : ∀ (f : Nat) (a b : List ByteArray), (∀ s ∈ a, s.size ≤ 140737488351232) → (∀ s ∈ b, s.size ≤ 140737488351232) → (colR f a b).1.size ≤ 140737488351240 ∧ (colR f a b).2.1.size ≤ 140737488351240
  | 0, _, _, _, _ => by simp [colR, ByteArray.size]
  | f + 1, a, b, ha, hb => by
    unfold colR
    have h1 := linkAt_size a a.length ha
    have h2 := linkAt_size b b.length hb
    split
    · exact colR_size f _ _ (fun s h => ha s ((List.dropLast_sublist _).mem h)) (fun s h => hb s ((List.dropLast_sublist _).mem h))
    · split
      · exact ⟨h1, h2⟩
      · simp [ByteArray.size]
set_option maxHeartbeats 4000000 in
theorem chainSame_any (A : Option Addr) (c : Nat) (L : List ByteArray) (A' : Option Addr) (c' : Nat) (L' : List ByteArray) (w : World) (H : HS w A c L) (H' : HS w A' c' L') :
    Calls Try.prog 7 #[.slice A L.length c, .slice A' L'.length c'] w (fun e w' => e = .returned (.bool true) ∧ Below w.heap.size w w') := by
  have C1 := Lib.hid (collide_any A c L A' c' L' w H.s H.n H.z H'.s H'.n H'.z)
  have C3 := Lib.hid (fun w' (hb : Below w.heap.size w w') => head_any A c L w' (H.at' hb).s H.n H.z)
  have C4 := Lib.hid (fun w' (hb : Below w.heap.size w w') => head_any A' c' L' w' (H'.at' hb).s H'.n H'.z)
  have C5 := Lib.hid (fun w' (hb : Below w.heap.size w w') => same_any A c L A' c' L' w' (H.at' hb).s H.n (H'.at' hb).s H'.n)
  have hcol := colF_full L L' (max L.length L'.length)
  have hlaw := colR_law (max L.length L'.length) L L' (Nat.le_max_left _ _) (Nat.le_max_right _ _)
  have z1 : ∀ x y o, colR (max L.length L'.length) L L' = (x, y, o) → o = true → x.size ≤ 140737488351240 ∧ y.size ≤ 140737488351240 := fun x y o e _ => by
    have := colR_size (max L.length L'.length) L L' H.z H'.z
    rw [e] at this
    exact this
  rw [hcol] at C1
  generalize colR (max L.length L'.length) L L' = rr at C1 hlaw z1
  clear hcol
  obtain ⟨x, y, o⟩ := rr
  have z2 := z1 x y o rfl
  clear z1 H H'
  simp only at hlaw
  generalize head L = g at C3 hlaw
  generalize head L' = g' at C4 hlaw
  cases o with
  | true =>
    rw [if_pos rfl] at hlaw
    obtain ⟨hxy, hf, rfl⟩ := hlaw
    obtain ⟨zx, zy⟩ := z2 rfl
    have hq : (x.toList == y.toList) = false := ne_toList hxy
    have HF := Lib.hid hf; clear hf hxy
    go_enter Try.func7, Try.ntmps7
    go_wp2_with fail
    refine C1.out.mono ?_
    rintro e w1 ⟨r, rfl, rfl, B1⟩
    go_wp2_with fail
    refine (chainBegun_any w1).mono ?_
    rintro e w2 ⟨rfl, hb⟩
    have B2 := B1.trans (hb.mono B1.size); clear hb
    go_wp2_with fail
    refine (hash_any x w2 (by omega)).mono ?_
    rintro e w3 ⟨rfl, hb⟩
    have B3 := B2.trans (hb.mono B2.size); clear hb
    go_wp2_with fail
    refine (hash_any y w3 (by omega)).mono ?_
    rintro e w4 ⟨rfl, hb⟩
    have B4 := B3.trans (hb.mono B3.size); clear hb
    rw [HF.out]
    clear HF
    generalize fnv y.data.toList = f0
    go_wp2_with fail
    refine (C3.out w4 B4).mono ?_
    rintro e w5 ⟨rfl, hb⟩
    have B5 := B4.trans (hb.mono B4.size); clear hb
    go_wp2_with fail
    refine (C4.out w5 B5).mono ?_
    rintro e w6 ⟨rfl, hb⟩
    have B6 := B5.trans (hb.mono B5.size); clear hb
    go_wp2_with fail
    go_ret
    exact ⟨rfl, B6⟩
  | false =>
    rw [if_neg (by decide)] at hlaw
    obtain ⟨hiff, rfl, rfl⟩ := hlaw
    have HI := Lib.hid hiff; clear hiff
    go_enter Try.func7, Try.ntmps7
    go_wp2_with fail
    refine C1.out.mono ?_
    rintro e w1 ⟨r, rfl, rfl, B1⟩
    go_wp2_with fail
    refine (chainBegun_any w1).mono ?_
    rintro e w2 ⟨rfl, hb⟩
    have B2 := B1.trans (hb.mono B1.size); clear hb
    go_wp2_with fail
    refine (C3.out w2 B2).mono ?_
    rintro e w5 ⟨rfl, hb⟩
    have B5 := B2.trans (hb.mono B2.size); clear hb
    go_wp2_with fail
    refine (C4.out w5 B5).mono ?_
    rintro e w6 ⟨rfl, hb⟩
    have B6 := B5.trans (hb.mono B5.size); clear hb
    go_wp2_with fail
    refine (C5.out w6 B6).mono ?_
    rintro e w7 ⟨⟨b, hbb, rfl⟩, hb⟩
    have B7 := B6.trans (hb.mono B6.size); clear hb
    have hd : ((g : Int) == (g' : Int)) = b := by
      have := HI.out
      rw [Bool.eq_iff_iff, hbb, ← this, beq_iff_eq]
      omega
    have HD := Lib.hid hbb; clear hbb
    go_wp2_with fail
    go_ret
    exact ⟨rfl, B7⟩
end Go.Proofs.Ytmcihmcgkhijcaa.ChainU
