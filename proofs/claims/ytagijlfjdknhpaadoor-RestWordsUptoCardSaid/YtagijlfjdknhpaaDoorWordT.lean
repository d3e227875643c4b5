/- The walks of the laws PartsTell, PartsBack; opening a handed slice of texts. -/
import Derived.Test.YtagijlfjdknhpaaDoorSeen
import Derived.Test.YtagijlfjdknhpaaDoorWordV
import Derived.Test.YtagijlfjdknhpaaDoorWordB
import Derived.Test.YtagijlfjdknhpaaDoorWordQ
namespace Go.Proofs.YtagijlfjdknhpaaDoor.WordT
open Go.RowKit Go.WideShapes Mem Seen WordP OneB WordW WordS WordB WordJ
open WordC (cut_any Cuts cut_none cut_at ext_drop ext_take)
open WordV (placeOf_any)
open WordR (parts_any)
open WordQ (partsOf_any)

/-- A handed slice of texts: its cells, its bounds. -/
structure HS (w : World) (A : Option Addr) (c : Nat) (L : List ByteArray) (M N : Nat) : Prop where
  r : Row w w.heap.size A (strs L)
  n : L.length * 16 ≤ N
  cap : L.length ≤ c
  z : A = none → c = 0
  s : ∀ x ∈ L, x.size ≤ M
theorem as_str {w : World} {okS : Nat → Prop} {okL : TypeId → Nat → Prop} {M : Nat} (hS : ∀ n, okS n → n ≤ M) (m : Nat) (x : List Value) (h : Sees Tryd.prog w okS okL m 9 x) : ∃ s : ByteArray, x = [.string s] ∧ s.size ≤ M := by
  obtain ⟨s, hs, hz⟩ := sees_str Tryd.underlying9 h
  exact ⟨s, hs, hS _ hz⟩
theorem open_strs {w : World} {okS : Nat → Prop} {okL : TypeId → Nat → Prop} {r : Reach} {b0 : Nat} {v : Value} {M N : Nat} (hv : Value.okWide Tryd.prog w r b0 29 v) (h : ∃ n, Sees Tryd.prog w okS okL n 29 v.cells.toList) (hS : ∀ n, okS n → n ≤ M) (hL : ∀ n, okL 9 n → n * 16 ≤ N) :
    ∃ A c L, v = .slice A (List.length L) c ∧ HS w A c L M N := by
  obtain ⟨A, c, L, rfl, h1, h2, h3, h4, h5⟩ := open_list (fun s : ByteArray => [Value.string s]) _ Tryd.underlying29 hv h (as_str hS)
  refine ⟨A, c, L, rfl, ⟨by rw [flat_single] at h4; exact h4, ?_, h2, h1, h5⟩⟩
  rcases h3 with h3 | h3
  · have := h1 h3; omega
  · have := hL c h3; omega
theorem join_len (u : UInt8) (M : Nat) (L : List ByteArray) (h : ∀ x ∈ L, x.size ≤ M) : (join u (L.map (·.data.toList))).length ≤ L.length * (M + 1) := by
  induction L with
  | nil => simp [join]
  | cons a l ih =>
    have h1 := ih (fun x hx => h x (by simp [hx]))
    have h2 := h a (by simp)
    have h3 : a.data.toList.length ≤ M := by simpa using h2
    cases l with
    | nil => simp [join] at h3 ⊢; omega
    | cons b l =>
      rw [List.map_cons, join_cons _ _ _ (by simp), List.length_append, List.length_cons]
      rw [List.length_cons, Nat.succ_mul]
      omega
theorem beq_self (b : ByteArray) : (b.toList == b.toList) = true := by simp
theorem place_cut (s : ByteArray) (u : UInt8) : (Lib.indexByte s.data.toList u = -1 ∧ WordC.cut u s.data.toList = (s.data.toList, [], false)) ∨
    ∃ n x y, n + 1 ≤ s.size ∧ Lib.indexByte s.data.toList u = (n : Int) ∧ WordC.cut u s.data.toList = (x, y, true) ∧ s.extract 0 n = str x ∧ s.extract (n + 1) s.size = str y := by
  rcases first_at u s.data.toList with h | ⟨a, r, hl, h⟩
  · exact .inl ⟨index_none _ _ h, cut_none h⟩
  · refine .inr ⟨a.length, a, r, ?_, by rw [hl]; exact index_at a r u h, by rw [hl]; exact cut_at h, by rw [ext_take, hl]; simp, by rw [ext_drop, hl]; simp⟩
    have : s.data.toList.length = s.size := by simp
    rw [hl] at this; simp at this; omega
set_option maxRecDepth 100000 in
set_option maxHeartbeats 4000000 in
theorem partsTell_any (s : ByteArray) (u : UInt8) (A : Option Addr) (c : Nat) (L : List ByteArray) (w : World) (hs : s.size ≤ 1048576) (H : HS w A c L 1048576 16777216) :
    Calls Tryd.prog 7 #[.string s, .int .u8 u.toNat, .slice A L.length c] w (Gives (.bool true) w) := by
  have C1 := fun w' => cut_any s u w' (by omega)
  have C2 := fun w' => placeOf_any s u w' (by omega)
  have C3 := fun w' => parts_any s u w' (by omega)
  have C4 := fun w' => partsOf_any u (s.size + 1) s (by omega) (by omega) w'
  have hlen : (split u s.data.toList).length = ((split u s.data.toList).map str).length := by simp
  have hpl : ((split u s.data.toList).map str).length ≤ 1048577 := by
    have := split_len u s.data.toList
    simp at this ⊢; omega
  rw [hlen] at C3 C4
  have hjl := join_len u 1048576 L H.s
  have hln := H.n
  have C5 := fun w' hr => join_any A c L u w' hr H.cap (by omega) (by have : L.length * 1048577 ≤ 1048576 * 1048577 := Nat.mul_le_mul_right _ (by omega); omega)
  have C6 := fun w' hr => joinOf_any A c L u w' hr (by omega) (by have : L.length * 1048577 ≤ 1048576 * 1048577 := Nat.mul_le_mul_right _ (by omega); omega)
  have hR := Lib.hid H.r
  clear H hjl hlen
  change ∀ w', Calls Tryd.prog _ _ w' (GivesRow w'.heap.size _ _ (strs ((split u s.data.toList).map str)) w') at C3
  generalize (split u s.data.toList).map str = Ps at C3 C4 hpl
  generalize str (join u (L.map (·.data.toList))) = jn at C5 C6
  have C3 := Lib.hid C3; have C4 := Lib.hid C4; have C5 := Lib.hid C5; have C6 := Lib.hid C6
  have q1 := beq_self s
  have q2 := beq_self jn
  rcases place_cut s u with ⟨hix, hcut⟩ | ⟨n, x, y, hn, hix, hcut, he1, he2⟩
  · rw [hix] at C2
    unfold Cuts at C1
    rw [hcut] at C1
    have hst : str s.data.toList = s := mkB s
    simp only [hst] at C1
    change ∀ w', Calls Tryd.prog _ _ w' (fun e w'' => e = .returned (.tuple #[.string s, .string ⟨#[]⟩, .bool false]) ∧ Below w'.heap.size w' w'') at C1
    have C1 := Lib.hid C1; have C2 := Lib.hid C2
    clear hix hcut hst
    go_enter Tryd.func7, Tryd.ntmps7
    go_wp2_with fail
    refine (C1.out _).mono ?_
    rintro e w1 ⟨rfl, b1⟩
    go_wp2_with fail
    refine (C2.out _).mono ?_
    rintro e w2 ⟨rfl, b2⟩
    go_wp2_with fail
    refine (wordBegun_any _).mono ?_
    rintro e w3 ⟨rfl, b3⟩
    go_wp2_with fail
    refine (C3.out _).mono ?_
    rintro e w4 ⟨v4, rfl, o4, b4⟩
    obtain ⟨A4, c4, rfl, n4, l4, r4⟩ := own_row o4
    go_wp2_with fail
    refine (C4.out _).mono ?_
    rintro e w5 ⟨v5, rfl, o5, b5⟩
    obtain ⟨A5, c5, rfl, n5, l5, r5⟩ := own_row o5
    go_wp2_with fail
    refine (sameTexts_any A4 c4 Ps A5 c5 Ps w5 (r4.at' b5) (by omega) r5 (by omega)).mono ?_
    rintro e w6 ⟨rfl, b6⟩
    rw [decide_eq_true rfl]
    have hb := below_cat (below_cat (below_cat (below_cat (below_cat b1 b2) b3) b4) b5) b6
    clear b1 b2 b3 b4 b5 b6 o4 o5 r4 r5 l4 l5 n4 n5
    go_wp2_with fail
    refine (C5.out _ (hR.out.at' hb)).mono ?_
    rintro e w7 ⟨rfl, b7⟩
    have hb7 := below_cat hb b7
    go_wp2_with fail
    refine (C6.out _ (hR.out.at' hb7)).mono ?_
    rintro e w8 ⟨rfl, b8⟩
    have hb8 := below_cat hb7 b8
    go_wp2_with fail
    go_ret
    exact ⟨rfl, hb8⟩
  · rw [hix] at C2
    unfold Cuts at C1
    rw [hcut] at C1
    change ∀ w', Calls Tryd.prog _ _ w' (fun e w'' => e = .returned (.tuple #[.string (str x), .string (str y), .bool true]) ∧ Below w'.heap.size w' w'') at C1
    have C1 := Lib.hid C1; have C2 := Lib.hid C2
    clear hix hcut
    generalize str x = bx at C1 he1
    generalize str y = bY at C1 he2
    have q3 := beq_self bx
    have q4 := beq_self bY
    have hw1 : (0 : Int) ≤ (n : Int) := by omega
    have hw2 : (n : Int) ≤ (s.size : Int) := by omega
    have hw3 : (n : Int) + 1 ≤ (s.size : Int) := by omega
    go_enter Tryd.func7, Tryd.ntmps7
    go_wp2_with fail
    refine (C1.out _).mono ?_
    rintro e w1 ⟨rfl, b1⟩
    go_wp2_with fail
    refine (C2.out _).mono ?_
    rintro e w2 ⟨rfl, b2⟩
    go_wp2_with fail
    go_quiet (fail)
    go_wp2_with fail
    refine (wordBegun_any _).mono ?_
    rintro e w3 ⟨rfl, b3⟩
    go_wp2_with fail
    refine (C3.out _).mono ?_
    rintro e w4 ⟨v4, rfl, o4, b4⟩
    obtain ⟨A4, c4, rfl, n4, l4, r4⟩ := own_row o4
    go_wp2_with fail
    refine (C4.out _).mono ?_
    rintro e w5 ⟨v5, rfl, o5, b5⟩
    obtain ⟨A5, c5, rfl, n5, l5, r5⟩ := own_row o5
    go_wp2_with fail
    refine (sameTexts_any A4 c4 Ps A5 c5 Ps w5 (r4.at' b5) (by omega) r5 (by omega)).mono ?_
    rintro e w6 ⟨rfl, b6⟩
    rw [decide_eq_true rfl]
    have hb := below_cat (below_cat (below_cat (below_cat (below_drewN (below_cat b1 b2) _) b3) b4) b5) b6
    clear b1 b2 b3 b4 b5 b6 o4 o5 r4 r5 l4 l5 n4 n5
    go_wp2_with fail
    refine (C5.out _ (hR.out.at' hb)).mono ?_
    rintro e w7 ⟨rfl, b7⟩
    have hb7 := below_cat hb b7
    go_wp2_with fail
    refine (C6.out _ (hR.out.at' hb7)).mono ?_
    rintro e w8 ⟨rfl, b8⟩
    have hb8 := below_cat hb7 b8
    go_wp2_with fail
    go_ret
    exact ⟨rfl, hb8⟩
theorem own_cap {w : World} {base n c : Nat} {e : TypeId} {size : Nat} {A : Option Addr} {xs : List Value} (h : w.ownsRow base e size (.slice A n c) n xs) : n ≤ c := by
  rcases h.2 with ⟨h1, h2⟩ | ⟨g, cap, cur, h1, _, _, h4, _⟩
  · omega
  · cases h1; exact h4
theorem map_back (l : List (List UInt8)) : (l.map str).map (·.data.toList) = l := by
  rw [List.map_map]
  conv => { rhs; rw [← List.map_id l] }
  apply List.map_congr_left
  intro a _
  simp [str]
theorem map_forth (L : List ByteArray) : (L.map (·.data.toList)).map str = L := by
  rw [List.map_map]
  conv => { rhs; rw [← List.map_id L] }
  apply List.map_congr_left
  intro a _
  exact mkB a
theorem places (L : List ByteArray) (u : UInt8) (k : Nat) (hk : k < L.length) (h : ∀ x ∈ L.take k, x.data.toList.contains u = false) (h2 : L[k].data.toList.contains u = false) : ∀ x ∈ L.take (k + 1), x.data.toList.contains u = false := by
  rw [takeS L k hk]
  intro x hx
  rcases List.mem_append.1 hx with hx | hx
  · exact h x hx
  · rw [List.mem_singleton.1 hx]; exact h2
set_option maxRecDepth 100000 in
set_option maxHeartbeats 4000000 in
theorem partsBack_any (s : ByteArray) (u : UInt8) (A : Option Addr) (c : Nat) (L : List ByteArray) (w : World) (hs : s.size ≤ 1048576) (H : HS w A c L 1048576 16777216) :
    Calls Tryd.prog 8 #[.string s, .int .u8 u.toNat, .slice A L.length c] w (Gives (.bool true) w) := by
  have C3 := fun w' => parts_any s u w' (by omega)
  have hlen : (split u s.data.toList).length = ((split u s.data.toList).map str).length := by simp
  have hpl : ((split u s.data.toList).map str).length ≤ 1048577 := by
    have := split_len u s.data.toList
    simp at this ⊢; omega
  rw [hlen] at C3
  have hjs : str (join u (((split u s.data.toList).map str).map (·.data.toList))) = s := by rw [map_back, join_split u _ _ (Nat.le_refl _)]; exact mkB s
  have hjz : (join u (((split u s.data.toList).map str).map (·.data.toList))).length ≤ 1048576 := by
    rw [map_back, join_split u _ _ (Nat.le_refl _)]; simpa using hs
  have CJ := fun A' c' w' hr (hc : ((split u s.data.toList).map str).length ≤ c') => join_any A' c' ((split u s.data.toList).map str) u w' hr hc (by omega) (by omega)
  rw [hjs] at CJ
  have hjl := join_len u 1048576 L H.s
  have hln := H.n
  have hjb : (join u (L.map (·.data.toList))).length ≤ 1099512676352 := by
    have : L.length * 1048577 ≤ 1048576 * 1048577 := Nat.mul_le_mul_right _ (by omega)
    omega
  have C5 := fun w' hr => join_any A c L u w' hr H.cap (by omega) (by omega)
  have hR := Lib.hid H.r
  have hdata : (str (join u (L.map (·.data.toList)))).data.toList = join u (L.map (·.data.toList)) := by simp [str]
  have C6 := fun w' => parts_any (str (join u (L.map (·.data.toList)))) u w' (by rw [WordW.str_size]; omega)
  rw [hdata] at C6
  have hfin : L ≠ [] → (∀ x ∈ L, x.data.toList.contains u = false) → (split u (join u (L.map (·.data.toList)))).map str = L := fun h0 hall => by
    rw [split_join u _ (by simpa using h0) (fun a ha => by obtain ⟨x, hx, rfl⟩ := List.mem_map.1 ha; exact hall x hx), map_forth]
  have hlen2 : (split u (join u (L.map (·.data.toList)))).length = ((split u (join u (L.map (·.data.toList)))).map str).length := by simp
  rw [hlen2] at C6
  change ∀ w', Calls Tryd.prog _ _ w' (GivesRow w'.heap.size _ _ (strs ((split u (join u (L.map (·.data.toList)))).map str)) w') at C6
  have HFIN := Lib.hid hfin
  clear hjs hjz hjl hjb hlen hdata hfin hlen2
  have hcap := H.cap
  have hz := H.z
  have HSZ := Lib.hid H.s
  clear H
  change ∀ w', Calls Tryd.prog _ _ w' (GivesRow w'.heap.size _ _ (strs ((split u s.data.toList).map str)) w') at C3
  generalize (split u s.data.toList).map str = Ps at C3 CJ hpl
  generalize (split u (join u (L.map (·.data.toList)))).map str = L2 at C6 HFIN
  generalize str (join u (L.map (·.data.toList))) = jn at C5 C6
  have C3 := Lib.hid C3; have CJ := Lib.hid CJ; have C5 := Lib.hid C5; have C6 := Lib.hid C6
  have q1 := beq_self s
  go_enter Tryd.func8, Tryd.ntmps8
  go_wp2_with fail
  refine (wordBegun_any _).mono ?_
  rintro e w1 ⟨rfl, b1⟩
  go_wp2_with fail
  refine (C3.out _).mono ?_
  rintro e w2 ⟨v2, rfl, o2, b2⟩
  obtain ⟨A2, c2, rfl, n2, l2, r2⟩ := own_row o2
  have k2 := own_cap o2
  go_wp2_with fail
  refine (CJ.out _ _ _ r2 k2).mono ?_
  rintro e w3 ⟨rfl, b3⟩
  have hb3 := below_cat (below_cat b1 b2) b3
  clear b1 b2 b3 o2 r2 l2 n2 k2
  go_wp2_with fail
  go_loopw [7] (fun i wr => ∃ k : Nat, k ≤ L.length ∧ i = .int .i64 k ∧ (∀ x ∈ L.take k, x.data.toList.contains u = false) ∧ Below w.heap.size w wr) (fun i _ => L.length - (intOf i).toNat)
  case atStart => exact ⟨0, Nat.zero_le _, rfl, by simp, hb3⟩
  case round =>
    clear hb3
    obtain ⟨k, hk, rfl, hall, hb⟩ := hrel
    have HALL := Lib.hid hall
    clear hall
    by_cases hlt : k < L.length
    · obtain ⟨b, o, rfl, hbB, hcs⟩ := strs_open (hR.out.below hb) (by omega)
      have c1 := hcs k L[k] (by simp [hlt])
      have hpl := places L u k hlt HALL.out
      have hsx := HSZ.out L[k] (by simp)
      have hix := index_ge L[k].data.toList u
      generalize L[k] = x at c1 hpl hsx hix
      have CP := fun w' => placeOf_any x u w' (by omega)
      generalize Lib.indexByte x.data.toList u = ix at CP hix
      have CP := Lib.hid CP
      have hw1 : (0 : Int) ≤ (k : Int) := by omega
      have hw2 : (k : Int) < (L.length : Int) := by omega
      clear hcs
      cases hcu : x.data.toList.contains u with
      | true =>
        rw [hcu] at hix
        have hix' : 0 ≤ ix := by simpa using hix
        clear hpl hcu
        go_wp2_with fail
        refine (CP.out _).mono ?_
        rintro e w4 ⟨rfl, b4⟩
        have hb4 := below_cat hb b4
        go_wp2_with fail
        go_ret
        exact ⟨rfl, hb4⟩
      | false =>
        rw [hcu] at hix
        have hix' : ¬ 0 ≤ ix := by simpa using hix
        have HPL := Lib.hid (hpl hcu)
        clear hpl hcu
        go_wp2_with fail
        refine (CP.out _).mono ?_
        rintro e w4 ⟨rfl, b4⟩
        have hb4 := below_cat hb b4
        go_wp2_with fail
        go_roundw
        case rel => exact ⟨k + 1, by omega, by go_num, HPL.out, hb4⟩
        case measure => simp [intOf]; omega
    · obtain rfl : k = L.length := by omega
      by_cases h0 : L.length = 0
      · have hz0 : ((L.length : Int) == 0) = true := by simp [h0]
        go_wp2_with fail
        go_ret
        exact ⟨rfl, hb⟩
      · have hz0 : ((L.length : Int) == 0) = false := by rw [beq_eq_false_iff_ne]; omega
        have hall := HALL.out
        rw [List.take_length] at hall
        have hL2 := HFIN.out (by intro e; exact h0 (by rw [e]; rfl)) hall
        have C6 := C6.out
        rw [hL2] at C6
        have C6 := Lib.hid C6
        clear hall HFIN hL2
        go_wp2_with fail
        refine (C5.out _ (hR.out.at' hb)).mono ?_
        rintro e w4 ⟨rfl, b4⟩
        have hb4 := below_cat hb b4
        go_wp2_with fail
        refine (C6.out _).mono ?_
        rintro e w5 ⟨v5, rfl, o5, b5⟩
        obtain ⟨A5, c5, rfl, n5, l5, r5⟩ := own_row o5
        have hb5 := below_cat hb4 b5
        go_wp2_with fail
        refine (sameTexts_any A5 c5 L A c L w5 r5 (by omega) (hR.out.at' hb5) (by omega)).mono ?_
        rintro e w6 ⟨rfl, b6⟩
        rw [decide_eq_true rfl]
        have hb6 := below_cat hb5 b6
        go_wp2_with fail
        go_ret
        exact ⟨rfl, hb6⟩
theorem byte_of {a : Int} (h : (Lit.int .u8 a).wf = true) : ∃ u : UInt8, a = (u.toNat : Int) := by
  have hb : 0 ≤ a ∧ a < 256 := by
    simp [Lit.wf] at h
    have h1 : IntKind.u8.min = 0 := by decide
    have h2 : IntKind.u8.max = 255 := by decide
    omega
  exact ⟨UInt8.ofNat a.toNat, by rw [UInt8.toNat_ofNat']; omega⟩
theorem partsTell_u (s : ByteArray) (a : Int) (h : (Lit.int .u8 a).wf = true) (A : Option Addr) (c : Nat) (L : List ByteArray) (w : World) (hs : s.size ≤ 1048576) (H : HS w A c L 1048576 16777216) :
    Calls Tryd.prog 7 #[.string s, .int .u8 a, .slice A L.length c] w (Gives (.bool true) w) := by
  obtain ⟨u, rfl⟩ := byte_of h
  exact partsTell_any s u A c L w hs H
theorem partsBack_u (s : ByteArray) (a : Int) (h : (Lit.int .u8 a).wf = true) (A : Option Addr) (c : Nat) (L : List ByteArray) (w : World) (hs : s.size ≤ 1048576) (H : HS w A c L 1048576 16777216) :
    Calls Tryd.prog 8 #[.string s, .int .u8 a, .slice A L.length c] w (Gives (.bool true) w) := by
  obtain ⟨u, rfl⟩ := byte_of h
  exact partsBack_any s u A c L w hs H
end Go.Proofs.YtagijlfjdknhpaaDoor.WordT
