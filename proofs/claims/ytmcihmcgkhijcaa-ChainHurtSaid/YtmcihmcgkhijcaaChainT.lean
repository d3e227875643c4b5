/- The walks of the laws ChainTells and ChainSame. -/
import Derived.Test.YtmcihmcgkhijcaaChainB
import Derived.Test.YtmcihmcgkhijcaaChainE
namespace Go.Proofs.Ytmcihmcgkhijcaa.ChainT
open Go.RowKit ChainW ChainH ChainR ChainD ChainS ChainE ChainB

/-- What a handed slice of strings must be. -/
structure HS (w : World) (A : Option Addr) (c : Nat) (L : List ByteArray) : Prop where
  s : Strs w w.heap.size A L
  n : L.length ≤ 8796093022208
  z : ∀ s ∈ L, s.size ≤ 140737488351232
  nil : A = none → c = 0
  c : L.length ≤ c
  m : L.length ≤ 8796093021952
theorem HS.at' {w w' : World} {A : Option Addr} {c : Nat} {L : List ByteArray} (h : HS w A c L) (hb : Below w.heap.size w w') : HS w' A c L := ⟨(h.s.below hb).more hb.size, h.n, h.z, h.nil, h.c, h.m⟩

set_option maxHeartbeats 4000000 in
theorem chainTells_any (s : ByteArray) (h : Nat) (hh : h < 18446744073709551616) (hs : s.size ≤ 140737488351232) (A : Option Addr) (c : Nat) (L : List ByteArray) (A' : Option Addr) (c' : Nat) (L' : List ByteArray) (w : World) (H : HS w A c L) (H' : HS w A' c' L') :
    Calls Try.prog 6 #[.string s, .int .u64 h, .slice A L.length c, .slice A' L'.length c'] w (fun e w' => e = .returned (.bool true) ∧ Below w.heap.size w w') := by
  have C1 := Lib.hid (collide_any A c L A' c' L' w H.s H.n H.z H'.s H'.n H'.z)
  have C2 := Lib.hid (fun w' (hb : Below w.heap.size w w') => collideOf_any (max L.length L'.length) L.length L'.length A c L A' c' L' w' rfl rfl rfl H.c H'.c (H.at' hb).s H.n H.z (H'.at' hb).s H'.n H'.z)
  have C3 := Lib.hid (fun w' (hb : Below w.heap.size w w') => head_any A c L w' (H.at' hb).s H.n H.z)
  have C4 := Lib.hid (fun w' (hb : Below w.heap.size w w') => headOf_any L.length A c L w' rfl H.c (H.at' hb).s H.n H.z)
  have C5 := Lib.hid (fun w' (hb : Below w.heap.size w w') => verify_any A c L h w' (H.at' hb).s H.n H.z)
  have hcol := colF_full L L' (max L.length L'.length)
  have hhd := head_lt L
  clear H H'
  rw [hcol] at C1
  generalize colR (max L.length L'.length) L L' = rr at C1 C2
  clear hcol
  obtain ⟨x, y, o⟩ := rr
  generalize head L = g at C3 C4 C5 hhd
  go_enter Try.func6, Try.ntmps6
  go_wp2_with fail
  refine C1.out.mono ?_
  rintro e w1 ⟨r, rfl, rfl, B1⟩
  go_wp2_with fail
  refine (C2.out w1 B1).mono ?_
  rintro e w2 ⟨rfl, hb⟩
  have B2 := B1.trans (hb.mono B1.size); clear hb
  go_wp2_with fail
  refine (chainBegun_any w2).mono ?_
  rintro e w3 ⟨rfl, hb⟩
  have B3 := B2.trans (hb.mono B2.size); clear hb
  go_wp2_with fail
  refine (hash_any s w3 (by omega)).mono ?_
  rintro e w4 ⟨rfl, hb⟩
  have B4 := B3.trans (hb.mono B3.size); clear hb
  go_wp2_with fail
  refine (hashOf_any s w4 (by omega)).mono ?_
  rintro e w5 ⟨rfl, rfl⟩
  generalize fnv s.data.toList = f0
  go_wp2_with fail
  refine (link_any h s w4 hh (by omega)).mono ?_
  rintro e w6 ⟨rfl, hb⟩
  have B6 := B4.trans (hb.mono B4.size); clear hb
  go_wp2_with fail
  refine (linkOf_any h s w6 hh (by omega)).mono ?_
  rintro e w7 ⟨rfl, hb⟩
  have B7 := B6.trans (hb.mono B6.size); clear hb
  generalize (⟨(link h s.data.toList).toArray⟩ : ByteArray) = l0
  go_wp2_with fail
  refine (C3.out w7 B7).mono ?_
  rintro e w8 ⟨rfl, hb⟩
  have B8 := B7.trans (hb.mono B7.size); clear hb
  go_wp2_with fail
  refine (C4.out w8 B8).mono ?_
  rintro e w9 ⟨rfl, hb⟩
  have B9 := B8.trans (hb.mono B8.size); clear hb
  go_wp2_with fail
  refine (C5.out w9 B9).mono ?_
  rintro e w10 ⟨rfl, hb⟩
  have B10 := B9.trans (hb.mono B9.size); clear hb
  go_wp2_with fail
  refine (C4.out w10 B10).mono ?_
  rintro e w11 ⟨rfl, hb⟩
  have B11 := B10.trans (hb.mono B10.size); clear hb
  clear B1 B2 B3 B4 B6 B7 B8 B9 B10 C1 C2 C3 C4 C5
  go_wp2_with fail
  go_ret
  exact ⟨rfl, B11⟩
theorem chainTells_int (s : ByteArray) (h : Int) (h0 : 0 ≤ h) (h1 : h < 18446744073709551616) (hs : s.size ≤ 140737488351232) (A : Option Addr) (c : Nat) (L : List ByteArray) (A' : Option Addr) (c' : Nat) (L' : List ByteArray) (w : World) (H : HS w A c L) (H' : HS w A' c' L') :
    Calls Try.prog 6 #[.string s, .int .u64 h, .slice A L.length c, .slice A' L'.length c'] w (fun e w' => e = .returned (.bool true) ∧ Below w.heap.size w w') := by
  obtain ⟨n, rfl⟩ := Int.eq_ofNat_of_zero_le h0
  exact chainTells_any s n (by omega) hs A c L A' c' L' w H H'
end Go.Proofs.Ytmcihmcgkhijcaa.ChainT
