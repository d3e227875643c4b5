/- The walks of the reference's letters. -/
import Derived.Test.YtfhfpanemalbmaaDoorSixtyL
import Derived.Test.YtfhfpanemalbmaaDoorBitsN
namespace Go.Proofs.YtfhfpanemalbmaaDoor.SixtyV
open Go.RowKit Mem BitsP BitsS BitsT SixtyP WordW SixtyW SixtyQ SixtyR SixtyL OneB BitsN

theorem letter_parts (n : Nat) (h : n < 64) : (n < 26 → UInt8.ofNat (65 + n) = letter n) ∧ (¬ n < 26 → n < 52 → UInt8.ofNat (97 + n - 26) = letter n) ∧ (¬ n < 52 → n < 62 → UInt8.ofNat (48 + n - 52) = letter n) ∧ (n = 62 → letter n = 45) ∧ (n = 63 → letter n = 95) := by
  have key : ∀ m : Fin 64, (m.val < 26 → UInt8.ofNat (65 + m.val) = letter m.val) ∧ (¬ m.val < 26 → m.val < 52 → UInt8.ofNat (97 + m.val - 26) = letter m.val) ∧ (¬ m.val < 52 → m.val < 62 → UInt8.ofNat (48 + m.val - 52) = letter m.val) ∧ (m.val = 62 → letter m.val = 45) ∧ (m.val = 63 → letter m.val = 95) := by decide +kernel
  exact key ⟨n, h⟩
set_option maxHeartbeats 1000000 in
theorem letter_any (n : Nat) (w : World) (h : n < 64) :
    Calls Tryd.prog 52 #[.int .i64 n] w (Gives (.string (str [letter n])) w) := by
  obtain ⟨p1, p2, p3, p4, p5⟩ := letter_parts n h
  have C := fun (m : Int) w' h0 h1 => oneByte_any m w' h0 h1
  by_cases h1 : n < 26
  · have e : UInt8.ofNat ((65 : Int) + (n : Int)).toNat = letter n := by rw [← p1 h1]; congr 1
    have d1 : (n : Int) < 26 := by omega
    have C := Lib.hid (fun w' => (show Calls Tryd.prog 53 #[.int .i64 (65 + (n : Int))] w' (Gives (.string (str [letter n])) w') from by have := C (65 + (n : Int)) w' (by omega) (by omega); rw [e] at this; exact this))
    clear p1 p2 p3 p4 p5 e
    go_enter Tryd.func52, Tryd.ntmps52
    go_wp2_with fail
    refine (C.out _).mono ?_
    rintro e w1 ⟨rfl, b1⟩
    go_wp2_with fail
    go_ret
    exact ⟨rfl, b1⟩
  · have d1 : ¬ (n : Int) < 26 := by omega
    by_cases h2 : n < 52
    · have e : UInt8.ofNat ((97 : Int) + (n : Int) - 26).toNat = letter n := by rw [← p2 h1 h2]; congr 1; omega
      have d2 : (n : Int) < 52 := by omega
      have C := Lib.hid (fun w' => (show Calls Tryd.prog 53 #[.int .i64 (97 + (n : Int) - 26)] w' (Gives (.string (str [letter n])) w') from by have := C (97 + (n : Int) - 26) w' (by omega) (by omega); rw [e] at this; exact this))
      clear p1 p2 p3 p4 p5 e
      go_enter Tryd.func52, Tryd.ntmps52
      go_wp2_with fail
      refine (C.out _).mono ?_
      rintro e w1 ⟨rfl, b1⟩
      go_wp2_with fail
      go_ret
      exact ⟨rfl, b1⟩
    · have d2 : ¬ (n : Int) < 52 := by omega
      by_cases h3 : n < 62
      · have e : UInt8.ofNat ((48 : Int) + (n : Int) - 52).toNat = letter n := by rw [← p3 h2 h3]; congr 1; omega
        have d3 : (n : Int) < 62 := by omega
        have C := Lib.hid (fun w' => (show Calls Tryd.prog 53 #[.int .i64 (48 + (n : Int) - 52)] w' (Gives (.string (str [letter n])) w') from by have := C (48 + (n : Int) - 52) w' (by omega) (by omega); rw [e] at this; exact this))
        clear p1 p2 p3 p4 p5 e
        go_enter Tryd.func52, Tryd.ntmps52
        go_wp2_with fail
        refine (C.out _).mono ?_
        rintro e w1 ⟨rfl, b1⟩
        go_wp2_with fail
        go_ret
        exact ⟨rfl, b1⟩
      · have hc : n = 62 ∨ n = 63 := by omega
        clear C
        rcases hc with rfl | rfl
        · rw [p4 rfl]
          clear p1 p2 p3 p4 p5
          go_enter Tryd.func52, Tryd.ntmps52
          go_wp2_with fail
          go_ret
          exact ⟨rfl, Below.refl _ _⟩
        · rw [p5 rfl]
          clear p1 p2 p3 p4 p5
          go_enter Tryd.func52, Tryd.ntmps52
          go_wp2_with fail
          go_ret
          exact ⟨rfl, Below.refl _ _⟩
theorem letter_ne (c : UInt8) (n : Nat) (h : n < 64) (hn : n ≤ place c) : (if letter n = c then n = place c else n + 1 ≤ place c) := by
  by_cases e : letter n = c
  · rw [if_pos e, ← e, place_letter n h]
  · rw [if_neg e]
    rcases Nat.lt_or_ge n (place c) with h1 | h1
    · exact h1
    · have : n = place c := by omega
      subst this
      exact absurd (letter_place c h) e
set_option maxHeartbeats 1000000 in
theorem number_any (c : UInt8) (w : World) :
    Calls Tryd.prog 59 #[.int .u8 c.toNat] w (Gives (.int .i64 (if place c < 64 then (place c : Int) else -1)) w) := by
  generalize hr : (if place c < 64 then (place c : Int) else -1) = r
  have HRR := Lib.hid hr
  clear hr
  go_enter Tryd.func59, Tryd.ntmps59
  go_wp2_with fail
  go_loopw [3] (fun i wr => ∃ n : Nat, n ≤ 64 ∧ i = .int .i64 n ∧ n ≤ place c ∧ Below w.heap.size w wr) (fun i _ => 64 - (intOf i).toNat)
  case atStart => exact ⟨0, by omega, rfl, Nat.zero_le _, Below.refl _ _⟩
  case round =>
    obtain ⟨n, hn, rfl, hp, hb⟩ := hrel
    by_cases hlt : n < 64
    · have hle := letter_ne c n hlt hp
      have CL := Lib.hid (fun w' => letter_any n w' hlt)
      obtain ⟨b, hbe, hsz, hixb⟩ : ∃ b : ByteArray, str [letter n] = b ∧ b.size = 1 ∧ ∀ h : 0 < b.size, b[0]'h = letter n := ⟨_, rfl, rfl, fun _ => rfl⟩
      rw [hbe] at CL
      have hsz2 : 0 < b.size := by omega
      have hix := hixb hsz2
      clear hbe hixb
      generalize letter n = x at hle hix
      have d0 : (n : Int) < 64 := by omega
      by_cases he : x = c
      · rw [if_pos he] at hle
        have hlt' : place c < 64 := by omega
        have d1 : (((x.toNat : Nat) : Int) == ((c.toNat : Nat) : Int)) = true := by rw [he]; simp
        have HP := Lib.hid hle
        have hsz' : (0 : Int) < (b.size : Int) := by omega
        clear hle hsz
        go_wp2_with fail
        refine (CL.out _).mono ?_
        rintro e w1 ⟨rfl, b1⟩
        have hb1 := below_cat hb b1
        go_wp2_with fail
        go_ret
        exact ⟨by rw [← HRR.out, if_pos hlt', ← HP.out]; rfl, hb1⟩
      · rw [if_neg he] at hle
        have d1 : (((x.toNat : Nat) : Int) == ((c.toNat : Nat) : Int)) = false := by
          rw [beq_eq_false_iff_ne]; intro e; exact he (UInt8.toNat_inj.1 (by omega))
        have hsz' : (0 : Int) < (b.size : Int) := by omega
        clear hsz
        go_wp2_with fail
        refine (CL.out _).mono ?_
        rintro e w1 ⟨rfl, b1⟩
        have hb1 := below_cat hb b1
        go_wp2_with fail
        go_roundw
        case rel => exact ⟨n + 1, by omega, by go_num, hle, hb1⟩
        case measure => simp [intOf]; omega
    · obtain rfl : n = 64 := by omega
      go_wp2_with fail
      go_ret
      exact ⟨by rw [← HRR.out, if_neg (by omega)]; rfl, hb⟩
/-! The groups of three. -/
def nk (d : List UInt8) : Nat → Nat
  | 0 => 0
  | k + 1 => nk d k * 256 + (d.getD k 0).toNat
theorem nk_lt (d : List UInt8) (k : Nat) : nk d k < 256 ^ k := by
  induction k with
  | zero => exact Nat.one_pos
  | succ k ih => have := (d.getD k 0).toNat_lt; rw [nk, Nat.pow_succ]; omega
def four (n : Nat) : List UInt8 := [letter (n / 262144), letter (n / 4096 % 64), letter (n / 64 % 64), letter (n % 64)]
theorem group (d : List UInt8) (h : d ≠ []) : enc6 (tbits d) = (four (nk d 3)).take (min 3 d.length + 1) ++ enc6 (tbits (d.drop 3)) := by
  match d, h with
  | [a], _ =>
    have ha := a.toNat_lt
    rw [enc_one]
    simp [nk, four, tbits, enc6]
    exact ⟨congrArg letter (by omega), congrArg letter (by omega)⟩
  | [a, b], _ =>
    have ha := a.toNat_lt; have hb := b.toNat_lt
    rw [enc_two]
    simp [nk, four, tbits, enc6]
    exact ⟨congrArg letter (by omega), congrArg letter (by omega), congrArg letter (by omega)⟩
  | a :: b :: c :: r, _ =>
    have ha := a.toNat_lt; have hb := b.toNat_lt; have hc := c.toNat_lt
    have e : min 3 (a :: b :: c :: r).length = 3 := by simp
    rw [enc_three, e]
    simp [nk, four]
    exact ⟨congrArg letter (by omega), congrArg letter (by omega), congrArg letter (by omega), congrArg letter (by omega)⟩
set_option maxRecDepth 100000 in
set_option maxHeartbeats 4000000 in
theorem sixtyOf_any (s : ByteArray) (w : World) (hs : s.size ≤ 281474976710656) :
    Calls Tryd.prog 25 #[.string s] w (WPost (writeF s.data.toList) w) := by
  by_cases hbig : 400 < s.size
  · have hw : writeF s.data.toList = ([], 2) := by unfold writeF; rw [if_pos (by simpa using hbig)]
    rw [hw]
    have h1 : (s.size : Int) > 400 := by omega
    go_enter Tryd.func25, Tryd.ntmps25
    go_wp2_with fail
    go_ret2
    exact ⟨rfl, Below.refl _ _⟩
  · have hw : writeF s.data.toList = (enc6 (tbits s.data.toList), 0) := by unfold writeF; rw [if_neg (by simpa using hbig)]
    rw [hw]
    have h1 : ¬ (s.size : Int) > 400 := by omega
    have HSL := Lib.hid (show s.data.toList.length = s.size by simp)
    clear hw
    go_enter Tryd.func25, Tryd.ntmps25
    go_wp2_with fail
    go_loopw [4, 5] (fun v i wr => ∃ (q : Nat) (o : List UInt8), q ≤ (s.size + 2) / 3 ∧ i = .int .i64 ((3 * q : Nat) : Int) ∧ v = .string (str o) ∧ o ++ enc6 (tbits (s.data.toList.drop (3 * q))) = enc6 (tbits s.data.toList) ∧ o.length ≤ 4 * q ∧ Below w.heap.size w wr) (fun _ i _ => s.size + 3 - (intOf i).toNat)
    case atStart => exact ⟨0, [], Nat.zero_le _, rfl, rfl, rfl, Nat.le_refl _, Below.refl _ _⟩
    case round =>
      obtain ⟨q, o, hq, rfl, rfl, heq, hol, hb⟩ := hrel
      have HE := Lib.hid heq
      clear heq
      by_cases hlt : 3 * q < s.size
      · have hg := group (s.data.toList.drop (3 * q)) (by intro e; have := congrArg List.length e; rw [List.length_drop, HSL.out] at this; simp at this; omega)
        rw [List.length_drop, HSL.out, List.drop_drop] at hg
        have hix : ∀ k (h : 3 * q + k < s.size), s[3 * q + k] = (s.data.toList.drop (3 * q)).getD k 0 := fun k h => by
          rw [List.getD_eq_getElem?_getD, List.getElem?_drop, List.getElem?_eq_getElem (by rw [HSL.out]; exact h)]; rfl
        have hno : ∀ k, ¬ 3 * q + k < s.size → (s.data.toList.drop (3 * q)).getD k 0 = 0 := fun k h => by
          rw [List.getD_eq_getElem?_getD, List.getElem?_eq_none (by rw [List.length_drop, HSL.out]; omega)]; rfl
        have hnk := nk_lt (s.data.toList.drop (3 * q))
        have hsu : ∀ k, nk (s.data.toList.drop (3 * q)) (k + 1) = nk (s.data.toList.drop (3 * q)) k * 256 + ((s.data.toList.drop (3 * q)).getD k 0).toNat := fun k => rfl
        have h00 : nk (s.data.toList.drop (3 * q)) 0 = 0 := rfl
        have HG := Lib.hid hg; have HIX := Lib.hid hix; have HNO := Lib.hid hno; have HNK := Lib.hid hnk; have HSU := Lib.hid hsu; have H00 := Lib.hid h00
        clear hg hix hno hnk hsu h00
        generalize nk (s.data.toList.drop (3 * q)) = f at HG HNK HSU H00
        generalize (s.data.toList.drop (3 * q)) = d at HE HG HIX HNO HNK HSU H00
        have hr1 : ((3 * q : Nat) : Int) < (s.size : Int) := by omega
        generalize hat : 3 * q = at0 at HG HIX HNO hlt hr1
        have HAT := Lib.hid hat
        clear hat
        go_wp2_with fail
        go_loop [6, 7, 8] (fun n m k => ∃ j : Nat, j ≤ 3 ∧ k = .int .i64 j ∧ n = .int .i64 (f j) ∧ m = .int .i64 ((min j (s.size - at0) : Nat) : Int)) (fun _ _ k => 3 - (intOf k).toNat)
        case atStart => exact ⟨0, by omega, rfl, by rw [H00.out]; rfl, by rw [Nat.zero_min]; rfl⟩
        case round =>
          obtain ⟨j, hj, rfl, rfl, rfl⟩ := hrel
          have hf := HNK.out j
          by_cases hj3 : j < 3
          · have hf2 : f j < 65536 := Nat.lt_of_lt_of_le hf (Nat.le_trans (Nat.pow_le_pow_right (by omega) (show j ≤ 2 by omega)) (by decide))
            have hs1 := Lib.hid (HSU.out j)
            by_cases hin : at0 + j < s.size
            · have e := HIX.out j hin
              have hc := (d.getD j 0).toNat_lt
              have hmin : ((min j (s.size - at0) : Nat) : Int) = (j : Int) := by omega
              have hmin2 : ((min (j + 1) (s.size - at0) : Nat) : Int) = (j : Int) + 1 := by omega
              have HM2 := Lib.hid hmin2
              rw [hmin]
              clear hmin hmin2
              generalize d.getD j 0 = c at e hc hs1
              have hi : (at0 : Int) + (j : Int) < (s.size : Int) := by omega
              have hi2 : ((at0 : Int) + (j : Int)).toNat = at0 + j := by omega
              have hi0 : (0 : Int) ≤ (at0 : Int) + (j : Int) := by omega
              generalize f j = x at hf2 hs1 hf
              go_wp2_with fail
              go_round
              case rel => exact ⟨j + 1, by omega, by go_num, by rw [hs1.out]; go_num, by rw [HM2.out]⟩
              case measure => simp [intOf]; omega
            · have e := HNO.out j hin
              rw [e] at hs1
              have hmin2 : min (j + 1) (s.size - at0) = min j (s.size - at0) := by omega
              have HM2 := Lib.hid hmin2
              clear hmin2 e
              generalize min j (s.size - at0) = m at HM2
              have hi : ¬ (at0 : Int) + (j : Int) < (s.size : Int) := by omega
              generalize f j = x at hf2 hs1 hf
              go_wp2_with fail
              go_round
              case rel => exact ⟨j + 1, by omega, by go_num, by rw [hs1.out]; go_num, by rw [HM2.out]⟩
              case measure => simp [intOf]; omega
          · obtain rfl : j = 3 := by omega
            have hf2 : f 3 < 16777216 := hf
            generalize hm : min 3 (s.size - at0) = m at HG
            have hm1 : 1 ≤ m ∧ m ≤ 3 := by omega
            have HM := Lib.hid hm
            clear hf hm
            generalize f 3 = x at hf2 HG
            have e1 : x / 262144 < 64 := by omega
            have e2 : x / 4096 % 64 < 64 := by omega
            have e3 : x / 64 % 64 < 64 := by omega
            have e4 : x % 64 < 64 := by omega
            have C1 := Lib.hid (fun w' => letter_any (x / 262144) w' e1)
            have C2 := Lib.hid (fun w' => letter_any (x / 4096 % 64) w' e2)
            have C3 := Lib.hid (fun w' => letter_any (x / 64 % 64) w' e3)
            have C4 := Lib.hid (fun w' => letter_any (x % 64) w' e4)
            have u1 : (x : Int) / 262144 = ((x / 262144 : Nat) : Int) := by omega
            have u2 : ((x : Int) / 4096).tmod 64 = ((x / 4096 % 64 : Nat) : Int) := by rw [Int.tmod_eq_emod_of_nonneg (by omega)]; omega
            have u3 : ((x : Int) / 64).tmod 64 = ((x / 64 % 64 : Nat) : Int) := by rw [Int.tmod_eq_emod_of_nonneg (by omega)]; omega
            have u4 : (x : Int).tmod 64 = ((x % 64 : Nat) : Int) := by rw [Int.tmod_eq_emod_of_nonneg (by omega)]; omega
            have hfour : ((str [letter (x / 262144)] ++ str [letter (x / 4096 % 64)] ++ str [letter (x / 64 % 64)] ++ str [letter (x % 64)]).extract 0 (m + 1)) = str ((four x).take (m + 1)) := by
              rw [Lib.extract_upto]; rfl
            have hz1 : ∀ c : UInt8, (str [c]).size = 1 := fun c => rfl
            have z1 := hz1 (letter (x / 262144)); have z2 := hz1 (letter (x / 4096 % 64)); have z3 := hz1 (letter (x / 64 % 64)); have z4 := hz1 (letter (x % 64))
            have HF := Lib.hid hfour
            clear hfour hz1
            generalize str [letter (x / 262144)] = s1 at C1 z1 HF
            generalize str [letter (x / 4096 % 64)] = s2 at C2 z2 HF
            generalize str [letter (x / 64 % 64)] = s3 at C3 z3 HF
            generalize str [letter (x % 64)] = s4 at C4 z4 HF
            generalize ((x / 262144 : Nat) : Int) = n1 at C1 u1
            generalize ((x / 4096 % 64 : Nat) : Int) = n2 at C2 u2
            generalize ((x / 64 % 64 : Nat) : Int) = n3 at C3 u3
            generalize ((x % 64 : Nat) : Int) = n4 at C4 u4
            have y1 : s1.size ≤ 1 := by omega
            have y2 : s2.size ≤ 1 := by omega
            have y3 : s3.size ≤ 1 := by omega
            have y4 : s4.size ≤ 1 := by omega
            have y12 : (s1 ++ s2).size = 2 := by simp; omega
            have y123 : (s1 ++ s2 ++ s3).size = 3 := by simp; omega
            have y5 : (s1 ++ s2 ++ s3 ++ s4).size = 4 := by simp; omega
            clear z1 z2 z3 z4 e1 e2 e3 e4
            have hos : (str o).size ≤ 1000 := by rw [str_size]; omega
            go_wp2_with fail
            refine (C1.out _).mono ?_
            rintro e w1 ⟨rfl, b1⟩
            go_wp2_with fail
            refine (C2.out _).mono ?_
            rintro e w2 ⟨rfl, b2⟩
            go_wp2_with fail
            refine (C3.out _).mono ?_
            rintro e w3 ⟨rfl, b3⟩
            go_wp2_with fail
            refine (C4.out _).mono ?_
            rintro e w4 ⟨rfl, b4⟩
            have hb4 := below_cat (below_cat (below_cat (below_cat hb b1) b2) b3) b4
            clear b1 b2 b3 b4
            go_wp2_with fail
            go_roundw
            case rel =>
              have hat := HAT.out
              have hmm := HM.out
              have hl4 : ((four x).take (m + 1)).length ≤ 4 := by rw [List.length_take]; simp [four]; omega
              refine ⟨q + 1, o ++ (four x).take (m + 1), by omega, by rw [show 3 * (q + 1) = at0 + 3 from by omega]; simp, ?_, ?_, by rw [List.length_append]; omega, hb4⟩
              · rw [HF.out]; congr 1
              · rw [List.append_assoc, show 3 * (q + 1) = at0 + 3 from by omega, ← HG.out]; exact HE.out
            case measure =>
              have hat := HAT.out
              simp [intOf]; omega
      · have he := HE.out
        rw [List.drop_of_length_le (by rw [HSL.out]; omega)] at he
        have hoe : o = enc6 (tbits s.data.toList) := by simpa [tbits, enc6] using he
        have HO := Lib.hid hoe
        clear hoe he
        have hr1 : ¬ ((3 * q : Nat) : Int) < (s.size : Int) := by omega
        generalize hat : 3 * q = at0 at hr1 hlt
        clear hat
        go_wp2_with fail
        go_ret2
        exact ⟨by rw [← HO.out]; rfl, hb⟩
end Go.Proofs.YtfhfpanemalbmaaDoor.SixtyV
