/- The walks of the reference's FoldOf, isBlank, TrimOf, TokenOf, PlaceOf. -/
import Derived.Test.YtbacakgjhohedaaDoorWordW
import Derived.Test.YtbacakgjhohedaaDoorWordS
namespace Go.Proofs.YtbacakgjhohedaaDoor.WordV
open Go.RowKit Mem WordP OneB WordW WordS

theorem ext_drop (s : ByteArray) (k : Nat) : (s.extract k s.size).data.toList = s.data.toList.drop k := by
  simp [ByteArray.data_extract]
  exact List.take_of_length_le (by simp)
theorem len0 (t : ByteArray) (h : t.size = 0) : t.data.toList = [] := List.eq_nil_of_length_eq_zero (by simpa using h)
theorem ext_take (s : ByteArray) (k : Nat) : (s.extract 0 k).data.toList = s.data.toList.take k := by
  simp [ByteArray.data_extract]
set_option maxHeartbeats 1000000 in
theorem foldOf_any (s : ByteArray) (w : World) (hs : s.size ≤ 4611686018427387904) :
    Calls Tryd.prog 26 #[.string s] w (Gives (.string (str (fold s.data.toList))) w) := by
  go_enter Tryd.func26, Tryd.ntmps26
  go_wp2_with fail
  go_loopw [3, 4] (fun v i wr => ∃ k : Nat, k ≤ s.size ∧ i = .int .i64 k ∧ v = .string (str (fold (s.data.toList.take k))) ∧ Below w.heap.size w wr) (fun _ i _ => s.size - (intOf i).toNat)
  case atStart => exact ⟨0, Nat.zero_le _, rfl, rfl, Below.refl _ _⟩
  case round =>
    obtain ⟨k, hk, rfl, rfl, hb⟩ := hrel
    by_cases hlt : k < s.size
    · have htk := take_snocB s k hlt
      have hc256 : s[k].toNat < 256 := UInt8.toNat_lt _
      have hnat := foldB_nat s[k]
      have hfs : str (fold (s.data.toList.take (k + 1))) = str (fold (s.data.toList.take k)) ++ ⟨#[foldB s[k]]⟩ := by rw [htk, fold_app, ← str_app]; rfl
      have hsz : (str (fold (s.data.toList.take k))).size ≤ s.size := by rw [str_size]; simp [fold]; omega
      have HFS := Lib.hid hfs
      clear hfs htk
      have hk1 : (0 : Int) ≤ (k : Int) := by omega
      have hk2 : (k : Int) < (s.size : Int) := by omega
      generalize str (fold (s.data.toList.take k)) = acc at hsz HFS ⊢
      by_cases hup : 65 ≤ s[k].toNat ∧ s[k].toNat ≤ 90
      · rw [if_pos hup] at hnat
        have hof : UInt8.ofNat ((s[k].toNat : Int) + 32).toNat = foldB s[k] := by
          apply UInt8.toNat_inj.1; rw [hnat, UInt8.toNat_ofNat']; omega
        have HOF := Lib.hid hof
        obtain ⟨u1, u2⟩ := hup
        clear hof hnat
        go_wp2_with fail
        with_reducible refine (oneByte_any _ _ (by omega) (by omega)).mono ?_
        rintro e w1 ⟨rfl, hb1⟩
        rw [HOF.out]
        go_wp2_with fail
        go_roundw
        case rel => exact ⟨k + 1, by omega, by go_num, by rw [HFS.out], below_cat hb hb1⟩
        case measure => simp [intOf]; omega
      · rw [if_neg hup] at hnat
        have hof : UInt8.ofNat ((s[k].toNat : Int)).toNat = foldB s[k] := by
          apply UInt8.toNat_inj.1; rw [hnat, UInt8.toNat_ofNat']; omega
        have HOF := Lib.hid hof
        clear hof hnat
        by_cases u1 : 65 ≤ s[k].toNat
        · have u2 : ¬ s[k].toNat ≤ 90 := fun h => hup ⟨u1, h⟩
          clear hup
          go_wp2_with fail
          with_reducible refine (oneByte_any _ _ (by omega) (by omega)).mono ?_
          rintro e w1 ⟨rfl, hb1⟩
          rw [HOF.out]
          go_wp2_with fail
          go_roundw
          case rel => exact ⟨k + 1, by omega, by go_num, by rw [HFS.out], below_cat hb hb1⟩
          case measure => simp [intOf]; omega
        · have u3 : decide ((65 : Int) ≤ (s[k].toNat : Int)) = false := by simp; omega
          clear hup
          go_wp2_with fail
          with_reducible refine (oneByte_any _ _ (by omega) (by omega)).mono ?_
          rintro e w1 ⟨rfl, hb1⟩
          rw [HOF.out]
          go_wp2_with fail
          go_roundw
          case rel => exact ⟨k + 1, by omega, by go_num, by rw [HFS.out], below_cat hb hb1⟩
          case measure => simp [intOf]; omega
    · obtain rfl : k = s.size := by omega
      rw [List.take_of_length_le (by simp)]
      go_wp2_with fail
      go_ret
      exact ⟨rfl, hb⟩

theorem isBlank_any (c : UInt8) (w : World) : Calls Tryd.prog 54 #[.int .u8 c.toNat] w (fun e w' => e = .returned (.bool (blankB c)) ∧ w = w') := by
  have hc : c.toNat < 256 := UInt8.toNat_lt _
  unfold blankB
  by_cases h1 : c.toNat = 32
  · have h2 : ((c.toNat : Int) == 32) = true := by simp [h1]
    have e : (c.toNat == 32 || c.toNat == 9) = true := by simp [h1]
    rw [e]
    clear h1 e
    go_enter Tryd.func54, Tryd.ntmps54
    go_wp2_with fail
    go_ret
    exact ⟨rfl, rfl⟩
  · have h2 : ((c.toNat : Int) == 32) = false := by simp; omega
    by_cases h3 : c.toNat = 9
    · have h4 : ((c.toNat : Int) == 9) = true := by simp [h3]
      have e : (c.toNat == 32 || c.toNat == 9) = true := by simp [h3]
      rw [e]
      clear h1 h3 e
      go_enter Tryd.func54, Tryd.ntmps54
      go_wp2_with fail
      go_ret
      exact ⟨rfl, rfl⟩
    · have h4 : ((c.toNat : Int) == 9) = false := by simp; omega
      have e : (c.toNat == 32 || c.toNat == 9) = false := by simp [h1, h3]
      rw [e]
      clear h1 h3 e
      go_enter Tryd.func54, Tryd.ntmps54
      go_wp2_with fail
      go_ret
      exact ⟨rfl, rfl⟩

theorem snoc_last (t : ByteArray) (h : 0 < t.size) : t.data.toList = t.data.toList.take (t.size - 1) ++ [t[t.size - 1]'(by omega)] := by
  have := take_snocB t (t.size - 1) (by omega)
  rw [show t.size - 1 + 1 = t.size from by omega, List.take_of_length_le (by simp)] at this
  exact this
theorem rdrop_snoc (p : UInt8 → Bool) (l : List UInt8) (c : UInt8) : rdrop p (l ++ [c]) = if p c then rdrop p l else l ++ [c] := by
  unfold rdrop
  rw [List.reverse_append, List.reverse_singleton, List.singleton_append, List.dropWhile_cons]
  cases p c <;> simp
set_option maxHeartbeats 2000000 in
theorem trimOf_any (s : ByteArray) (w : World) (hs : s.size ≤ 4611686018427387904) :
    Calls Tryd.prog 39 #[.string s] w (fun e w' => e = .returned (.string (str (trim s.data.toList))) ∧ w = w') := by
  go_enter Tryd.func39, Tryd.ntmps39
  go_wp2_with fail
  go_loop [0] (fun v => ∃ t : ByteArray, v = .string t ∧ t.size ≤ s.size ∧ t.data.toList.dropWhile blankB = s.data.toList.dropWhile blankB) (fun v => match v with | .string t => t.size | _ => 0)
  case atStart => exact ⟨s, rfl, Nat.le_refl _, rfl⟩
  case round =>
    obtain ⟨t, rfl, htz, hdw⟩ := hrel
    have HDW := Lib.hid hdw
    clear hdw
    by_cases h0 : 0 < t.size
    · have hd := drop_consB t 0 h0
      rw [List.drop_zero] at hd
      have hx := ext_drop t 1
      have HD := Lib.hid hd; have HX := Lib.hid hx
      have h00 : (t.size : Int) > 0 := by omega
      have CB := Lib.hid (fun w' => isBlank_any t[0] w')
      clear hd hx
      cases hbl : blankB t[0] with
      | true =>
        rw [hbl] at CB
        have HB := Lib.hid hbl
        clear hbl
        have h1 : 1 ≤ t.size := by omega
        go_wp2_with fail
        with_reducible refine (CB.out _).mono ?_
        rintro e w1 ⟨rfl, rfl⟩
        go_wp2_with fail
        go_round
        case rel =>
          refine ⟨_, rfl, by simp; omega, ?_⟩
          rw [HX.out, ← HDW.out, HD.out, List.dropWhile_cons, HB.out]
          simp
        case measure => simp; omega
      | false =>
        rw [hbl] at CB
        have hfin : t.data.toList = s.data.toList.dropWhile blankB := by
          rw [← HDW.out, HD.out, List.dropWhile_cons, hbl]; simp
        have HF := Lib.hid hfin
        clear hfin hbl
        go_wp2_with fail
        with_reducible refine (CB.out _).mono ?_
        rintro e w1 ⟨rfl, rfl⟩
        go_wp2_with fail
        go_loop [0] (fun v => ∃ t2 : ByteArray, v = .string t2 ∧ t2.size ≤ s.size ∧ rdrop blankB t2.data.toList = trim s.data.toList) (fun v => match v with | .string t2 => t2.size | _ => 0)
        case atStart => exact ⟨t, rfl, htz, by rw [HF.out]; rfl⟩
        case round =>
          clear htz HF
          obtain ⟨t2, rfl, htz, hrd⟩ := hrel
          have HRD := Lib.hid hrd
          clear hrd
          by_cases g0 : 0 < t2.size
          · have hd := snoc_last t2 g0
            have hx := ext_take t2 (t2.size - 1)
            have HD := Lib.hid hd; have HX := Lib.hid hx
            have g00 : (t2.size : Int) > 0 := by omega
            have g01 : ((t2.size : Int) - 1) = ((t2.size - 1 : Nat) : Int) := by omega
            have CB := Lib.hid (fun w' => isBlank_any (t2[t2.size - 1]'(by omega)) w')
            clear hd hx
            cases hbl : blankB (t2[t2.size - 1]'(by omega)) with
            | true =>
              rw [hbl] at CB
              have HB := Lib.hid hbl
              clear hbl
              go_wp2_with fail
              with_reducible refine (CB.out _).mono ?_
              rintro e w1 ⟨rfl, rfl⟩
              go_wp2_with fail
              go_round
              case rel =>
                refine ⟨_, rfl, by simp; omega, ?_⟩
                rw [HX.out, ← HRD.out, HD.out, rdrop_snoc, HB.out]
                simp
              case measure => simp; omega
            | false =>
              rw [hbl] at CB
              have hfin : str (trim s.data.toList) = t2 := by
                have e := HRD.out
                rw [HD.out, rdrop_snoc, hbl, if_neg (by decide), ← HD.out] at e
                rw [← e]; rfl
              have HF := Lib.hid hfin
              clear hfin hbl
              go_wp2_with fail
              with_reducible refine (CB.out _).mono ?_
              rintro e w1 ⟨rfl, rfl⟩
              go_wp2_with fail
              go_ret
              exact ⟨by rw [HF.out]; rfl, rfl⟩
          · have g00 : ¬ (t2.size : Int) > 0 := by omega
            have hfin : str (trim s.data.toList) = t2 := by
              have e : t2.data.toList = [] := by
                exact len0 _ (by omega)
              rw [← HRD.out, e, rdrop_nil, ← e]; rfl
            have HF := Lib.hid hfin
            clear hfin
            go_wp2_with fail
            go_ret
            exact ⟨by rw [HF.out]; rfl, rfl⟩
    · have h00 : ¬ (t.size : Int) > 0 := by omega
      have hfin : t.data.toList = s.data.toList.dropWhile blankB := by
        have e : t.data.toList = [] := by
          exact len0 _ (by omega)
        rw [← HDW.out, e]; rfl
      have HF := Lib.hid hfin
      clear hfin
      go_wp2_with fail
      go_loop [0] (fun v => ∃ t2 : ByteArray, v = .string t2 ∧ t2.size ≤ s.size ∧ rdrop blankB t2.data.toList = trim s.data.toList) (fun v => match v with | .string t2 => t2.size | _ => 0)
      case atStart => exact ⟨t, rfl, htz, by rw [HF.out]; rfl⟩
      case round =>
        clear htz HF
        obtain ⟨t2, rfl, htz, hrd⟩ := hrel
        have HRD := Lib.hid hrd
        clear hrd
        by_cases g0 : 0 < t2.size
        · have hd := snoc_last t2 g0
          have hx := ext_take t2 (t2.size - 1)
          have HD := Lib.hid hd; have HX := Lib.hid hx
          have g00 : (t2.size : Int) > 0 := by omega
          have g01 : ((t2.size : Int) - 1) = ((t2.size - 1 : Nat) : Int) := by omega
          have CB := Lib.hid (fun w' => isBlank_any (t2[t2.size - 1]'(by omega)) w')
          clear hd hx
          cases hbl : blankB (t2[t2.size - 1]'(by omega)) with
          | true =>
            rw [hbl] at CB
            have HB := Lib.hid hbl
            clear hbl
            go_wp2_with fail
            with_reducible refine (CB.out _).mono ?_
            rintro e w1 ⟨rfl, rfl⟩
            go_wp2_with fail
            go_round
            case rel =>
              refine ⟨_, rfl, by simp; omega, ?_⟩
              rw [HX.out, ← HRD.out, HD.out, rdrop_snoc, HB.out]
              simp
            case measure => simp; omega
          | false =>
            rw [hbl] at CB
            have hfin : str (trim s.data.toList) = t2 := by
              have e := HRD.out
              rw [HD.out, rdrop_snoc, hbl, if_neg (by decide), ← HD.out] at e
              rw [← e]; rfl
            have HF := Lib.hid hfin
            clear hfin hbl
            go_wp2_with fail
            with_reducible refine (CB.out _).mono ?_
            rintro e w1 ⟨rfl, rfl⟩
            go_wp2_with fail
            go_ret
            exact ⟨by rw [HF.out]; rfl, rfl⟩
        · have g00 : ¬ (t2.size : Int) > 0 := by omega
          have hfin : str (trim s.data.toList) = t2 := by
            have e : t2.data.toList = [] := by
              exact len0 _ (by omega)
            rw [← HRD.out, e, rdrop_nil, ← e]; rfl
          have HF := Lib.hid hfin
          clear hfin
          go_wp2_with fail
          go_ret
          exact ⟨by rw [HF.out]; rfl, rfl⟩

/-- Whether byte c is among the first n of l. -/
theorem take_all_succ (p : UInt8 → Bool) (s : ByteArray) (k : Nat) (h : k < s.size) (ha : (s.data.toList.take k).all p = true) (hp : p s[k] = true) : (s.data.toList.take (k + 1)).all p = true := by
  rw [take_snocB s k h, List.all_append, ha]; simp [hp]
theorem all_false (p : UInt8 → Bool) (s : ByteArray) (k : Nat) (h : k < s.size) (hp : p s[k] = false) : s.data.toList.all p = false := by
  have e : s.data.toList = s.data.toList.take k ++ s.data.toList.drop k := (List.take_append_drop k _).symm
  rw [e, drop_consB s k h, List.all_append, List.all_cons, hp]; simp
theorem tok_false (s : ByteArray) (k : Nat) (h : k < s.size) (hp : tokB s[k] = false) : token s.data.toList = false := by
  unfold token; rw [all_false tokB s k h hp]; simp
def badB : ByteArray := ⟨#[40, 41, 60, 62, 64, 44, 59, 58, 92, 34, 47, 91, 93, 63, 61, 123, 125]⟩
theorem badB_size : badB.size = 17 := rfl
theorem badB_list : badB.data.toList = bad := rfl
set_option maxHeartbeats 1000000 in
theorem placeOf_any (s : ByteArray) (c : UInt8) (w : World) (hs : s.size ≤ 4611686018427387904) :
    Calls Tryd.prog 32 #[.string s, .int .u8 c.toNat] w (Gives (.int .i64 (Lib.indexByte s.data.toList c)) w) := by
  go_enter Tryd.func32, Tryd.ntmps32
  go_wp2_with fail
  go_loopw [5] (fun i wr => ∃ k : Nat, k ≤ s.size ∧ i = .int .i64 k ∧ (s.data.toList.take k).contains c = false ∧ Below w.heap.size w wr) (fun i _ => s.size - (intOf i).toNat)
  case atStart => exact ⟨0, Nat.zero_le _, rfl, by simp, Below.refl _ _⟩
  case round =>
    obtain ⟨k, hk, rfl, hct, hb⟩ := hrel
    have HC := Lib.hid hct
    clear hct
    by_cases hlt : k < s.size
    · have hk1 : (0 : Int) ≤ (k : Int) := by omega
      have hk2 : (k : Int) < (s.size : Int) := by omega
      by_cases heq : s[k] = c
      · have e1 : ((s[k].toNat : Int) == (c.toNat : Int)) = true := by rw [heq]; simp
        have hres : Lib.indexByte s.data.toList c = (k : Int) := by
          have e : s.data.toList = s.data.toList.take k ++ s.data.toList.drop k := (List.take_append_drop k _).symm
          rw [e, drop_consB s k hlt, heq, index_at _ _ _ HC.out]
          simp; omega
        have HR := Lib.hid hres
        clear hres
        go_wp2_with fail
        go_ret
        exact ⟨by rw [HR.out]; rfl, hb⟩
      · have e1 : ((s[k].toNat : Int) == (c.toNat : Int)) = false := by simp; intro h; exact heq (UInt8.toNat_inj.1 (by omega))
        have hc0 : (s.data.toList.take (k + 1)).contains c = false := by
          rw [take_snocB s k hlt, List.contains_append, HC.out]; simpa using fun e => heq e.symm
        have HC0 := Lib.hid hc0
        clear hc0
        go_wp2_with fail
        go_roundw
        case rel => exact ⟨k + 1, by omega, by go_num, HC0.out, hb⟩
        case measure => simp [intOf]; omega
    · obtain rfl : k = s.size := by omega
      have hct := HC.out
      rw [List.take_of_length_le (by simp)] at hct
      have HR := Lib.hid (index_none _ _ hct)
      clear hct
      go_wp2_with fail
      go_ret
      exact ⟨by rw [HR.out]; rfl, hb⟩
end Go.Proofs.YtbacakgjhohedaaDoor.WordV
