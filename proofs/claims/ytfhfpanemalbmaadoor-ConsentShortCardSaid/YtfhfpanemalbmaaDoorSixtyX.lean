/- The walks of UnsixtyOf and of the law SixtyTells. -/
import Derived.Test.YtfhfpanemalbmaaDoorSixtyV
namespace Go.Proofs.YtfhfpanemalbmaaDoor.SixtyX
open Go.RowKit Mem BitsP BitsS BitsT SixtyP WordW SixtyW SixtyQ SixtyR SixtyL OneB BitsN SixtyV

theorem own_cap {w : World} {base n c : Nat} {e : TypeId} {size : Nat} {A : Option Addr} {xs : List Value} (h : w.ownsRow base e size (.slice A n c) n xs) : n ≤ c := by
  rcases h.2 with ⟨h1, h2⟩ | ⟨g, cap, cur, h1, _, _, h4, _⟩
  · omega
  · cases h1; exact h4
theorem btx_take (l : List Nat) (m : Nat) (h : 8 * m ≤ l.length) : btx (l.take (8 * m)) = str (((packB l).map UInt8.ofNat).take m) := by
  rw [← List.map_take, pack_take _ _ h]; rfl
theorem ints_app (a b : List Nat) : ints (a ++ b) = ints a ++ ints b := by simp [ints]
/-- What owns a row: nil, or a block of its own, from its beginning on. -/
theorem own_parts {w : World} {base n : Nat} {e : TypeId} {size : Nat} {v : Value} {xs : List Value} (h : w.ownsRow base e size v n xs) : (v = .slice none 0 0 ∧ n = 0 ∧ xs = []) ∨ ∃ g c, v = .slice (some ⟨g, 0, none⟩) n c ∧ n ≤ c ∧ Row w w.heap.size (some ⟨g, 0, none⟩) xs := by
  have hl : xs.length = n * size := h.1
  have h0 := h
  rcases h.2 with ⟨rfl, h2⟩ | ⟨g, cap, cur, rfl, hg, hh, h4, _⟩
  · subst h2
    exact .inl ⟨rfl, rfl, List.eq_nil_of_length_eq_zero (by rw [hl, Nat.zero_mul])⟩
  · refine .inr ⟨g, cap, rfl, h4, fun _ => ⟨g, 0, rfl, (h.lt g rfl).2, fun j hj => ?_⟩⟩
    rw [Nat.zero_add, h0.cellAt j (by omega)]
    simp [hj]
set_option maxRecDepth 100000 in
set_option maxHeartbeats 4000000 in
theorem unsixtyOf_any (t : ByteArray) (w : World) (hs : t.size ≤ 1048576) :
    Calls Tryd.prog 31 #[.string t] w (RPost (readF t.data.toList) w) := by
  have HTL := Lib.hid (show t.data.toList.length = t.size by simp)
  go_enter Tryd.func31, Tryd.ntmps31
  go_wp2_with fail
  go_loopw [4, 5] (fun v i wr => ∃ k : Nat, k ≤ t.size ∧ i = .int .i64 k ∧ known (t.data.toList.take k) = true ∧ wr.ownsRow w.heap.size 3 1 v (6 * k) (ints (dbits (t.data.toList.take k))) ∧ Below w.heap.size w wr) (fun _ i _ => t.size - (intOf i).toNat)
  case atStart => exact ⟨0, Nat.zero_le _, rfl, rfl, World.ownsRow_nil _ _ _ _, Below.refl _ _⟩
  case round =>
    obtain ⟨k, hk, rfl, hkn, hown, hbl⟩ := hrel
    have HKN := Lib.hid hkn
    clear hkn
    have hsz := hbl.size
    by_cases hlt : k < t.size
    · have htk := SixtyR.take_snocB t k hlt
      have hbad := known_bad t k hlt
      have hi1 : (k : Int) < (t.size : Int) := by omega
      generalize hc : t[k] = c at htk hbad
      have CI := Lib.hid (fun w' => number_any c w')
      by_cases hp : place c < 64
      · have CI := CI.out
        simp only [if_pos hp] at CI
        have CI := Lib.hid CI
        have hkn1 : known (t.data.toList.take (k + 1)) = true := by rw [htk, known_app, HKN.out]; simp [known, hp]
        have hdb1 : dbits (t.data.toList.take (k + 1)) = dbits (t.data.toList.take k) ++ bitsOf (place c) 6 := by rw [htk, dbits_app]; simp [dbits]
        have HB1 := Lib.hid hdb1
        have HKN1 := Lib.hid hkn1
        have CB := fun w' => bitList_any (place c) 6 w' (by omega) (by omega)
        rw [show (((6 : Nat)) : Int) = 6 from rfl] at CB
        have CB := Lib.hid CB
        clear htk hbad hkn1 hdb1
        have hbl6 := bitsOf_len (place c) 6
        generalize bitsOf (place c) 6 = q at CB HB1 hbl6
        generalize place c = x at hp CI CB
        have hwx : IntKind.u64.wrap (x : Int) = (x : Int) := IntWalk.u64_in _ (by omega)
        have HL6 := Lib.hid hbl6
        clear hbl6
        go_wp2_with fail
        refine (CI.out _).mono ?_
        rintro e w1 ⟨rfl, b1⟩
        have hown1 := own_below hown b1
        have hbl1 := below_cat hbl b1
        clear hown b1
        go_wp2_with fail
        refine (CB.out _).mono ?_
        rintro e w2 ⟨v2, rfl, o2, b2⟩
        have hown2 := own_below hown1 b2
        have hbl2 := below_cat hbl1 b2
        obtain ⟨A2, c2, rfl, n2, l2, r2⟩ := own_row o2
        clear hown1 b2
        have hz2 := hbl2.size
        have hl := l2
        go_wp2_with (first
          | (at_builtin
             refine app elemInt rfl (.tmp 20) (.tmp 23) rfl w.heap.size _ (6 * k) _ rfl hown2 A2 6 c2 _ w2.heap.size rfl l2 r2 (by simp [ints, Value.oneCell']) (fun e => (n2 e).1) (by omega) (by omega) hz2 ?_
             intro v' w4 o4 g4))
        go_roundw
        case rel =>
          refine ⟨k + 1, by omega, by go_num, HKN1.out, ?_, grown_below w.heap.size hbl2 hz2 hown2 (Nat.le_refl _) g4⟩
          rw [HB1.out, show 6 * (k + 1) = 6 * k + 6 from by omega, ints_app]
          exact o4
        case measure => simp [intOf]; omega
      · have CI := CI.out
        simp only [if_neg hp] at CI
        have CI := Lib.hid CI
        have HR := Lib.hid (read_bad (hbad hp))
        clear htk hbad
        go_wp2_with fail
        refine (CI.out _).mono ?_
        rintro e w1 ⟨rfl, b1⟩
        have hbl1 := below_cat hbl b1
        go_wp2_with fail
        go_ret2
        exact ⟨by rw [HR.out]; rfl, hbl1⟩
    · obtain rfl : k = t.size := by omega
      have hall : t.data.toList.take t.size = t.data.toList := List.take_of_length_le (by rw [HTL.out]; omega)
      have hkn := HKN.out
      rw [hall] at hkn hown
      have hbin := dbits_bin t.data.toList
      have hdl := dbits_len t.data.toList
      rw [HTL.out] at hdl
      have r1 := read_one hkn
      have r2 := read_many hkn
      have r3 := read_rest hkn
      have r4 := read_ok hkn
      rw [HTL.out] at r1 r2 r3 r4
      clear hall hkn
      have hm4 : (t.size : Int).tmod 4 = ((t.size % 4 : Nat) : Int) := by rw [Int.tmod_eq_emod_of_nonneg (by omega)]; omega
      have hm7 : ((6 * t.size : Nat) : Int) / 8 = ((t.size * 6 / 8 : Nat) : Int) := by omega
      have hi0 : ¬ (t.size : Int) < (t.size : Int) := by omega
      have hm8 : 8 * (t.size * 6 / 8) ≤ 6 * t.size := by omega
      have hm9 : 6 * t.size - 8 * (t.size * 6 / 8) ≤ 8 := by omega
      have hbt := btx_take (dbits t.data.toList) (t.size * 6 / 8) (by omega)
      generalize dbits t.data.toList = l at hbin hdl r3 r4 hbt hown
      generalize ((packB l).map UInt8.ofNat).take (t.size * 6 / 8) = tk at hbt r4
      generalize hlen : 6 * t.size = len at hm7 hm8 hm9 hdl hown
      generalize t.size * 6 / 8 = m at hm7 hm8 hm9 r2 r3 r4 hbt
      have hlm : len ≤ 6291456 := by omega
      clear hlen
      have hopen := own_parts hown
      clear hown
      by_cases h1 : t.size % 4 = 1
      · have HR := Lib.hid (r1 h1)
        rw [h1] at hm4
        clear r1 r2 r3 r4 h1
        rcases hopen with ⟨rfl, h0, _⟩ | ⟨g, c, rfl, _, _⟩
        all_goals
          go_wp2_with fail
          go_ret2
          exact ⟨by rw [HR.out]; rfl, hbl⟩
      · have hm6 : (((t.size % 4 : Nat) : Int) == 1) = false := by rw [beq_eq_false_iff_ne]; omega
        generalize hq : ((t.size % 4 : Nat) : Int) = q at hm4 hm6
        clear hq
        by_cases h2 : 400 < m
        · have HR := Lib.hid (r2 h1 h2)
          have hi2 : (m : Int) > 400 := by omega
          clear r1 r2 r3 r4 h1 h2
          rcases hopen with ⟨rfl, h0, _⟩ | ⟨g, c, rfl, _, _⟩
          · omega
          · go_wp2_with fail
            go_ret2
            exact ⟨by rw [HR.out]; rfl, hbl⟩
        · have hi2 : ¬ (m : Int) > 400 := by omega
          rcases hopen with ⟨rfl, h0, hl0⟩ | ⟨g, c, rfl, hcap, hrow⟩
          · obtain rfl : len = 0 := h0
            obtain rfl : m = 0 := by omega
            obtain rfl : l = [] := List.eq_nil_of_length_eq_zero (by omega)
            have HR := Lib.hid (r4 h1 h2 rfl)
            have CN := Lib.hid (fun w' => bitNumber_any none 0 [] w' (Row.nil _ _ _) (fun _ h => by cases h) (by decide))
            have CB := Lib.hid (fun w' => bitBytes_any none 0 [] w' (Row.nil _ _ _) (fun _ h => by cases h) (by decide))
            have HBT := Lib.hid hbt
            clear r1 r2 r3 r4 h1 h2 hbt hl0 hbin hm7 hm8 hm9
            go_wp2_with fail
            refine (CN.out _).mono ?_
            rintro e w1 ⟨rfl, rfl⟩
            go_wp2_with fail
            refine (CB.out _).mono ?_
            rintro e w1 ⟨rfl, b1⟩
            have hbl1 := below_cat hbl b1
            go_wp2_with fail
            go_ret2
            exact ⟨by rw [HR.out]; rw [show btx [] = str tk from HBT.out]; rfl, hbl1⟩
          · have hdrop : IRow wr wr.heap.size (some ⟨g, 0 + 8 * m, none⟩) (l.drop (8 * m)) := by
              have := hrow.dropN (8 * m)
              rwa [show (ints l).drop (8 * m) = ints (l.drop (8 * m)) from by simp [ints]] at this
            have htake : IRow wr wr.heap.size (some ⟨g, 0, none⟩) (l.take (8 * m)) := by
              have := hrow.takeN (8 * m)
              rwa [show (ints l).take (8 * m) = ints (l.take (8 * m)) from by simp [ints]] at this
            have hld : (l.drop (8 * m)).length = len - 8 * m := by rw [List.length_drop, hdl]
            have hlt8 : (l.take (8 * m)).length = 8 * m := by rw [List.length_take, hdl]; omega
            have hbd : Bin (l.drop (8 * m)) := fun b hb => hbin b (List.mem_of_mem_drop hb)
            have hbk : Bin (l.take (8 * m)) := fun b hb => hbin b (List.mem_of_mem_take hb)
            have CB := fun w' c' h => bitBytes_any (some ⟨g, 0, none⟩) c' (l.take (8 * m)) w' h hbk (by omega)
            rw [hlt8, hbt] at CB
            have CB := Lib.hid CB
            have HK := Lib.hid htake
            clear hbt hbk htake hrow hlt8 hbin
            have hn1 : IntKind.i64.wrap (8 * (m : Int)) = 8 * (m : Int) := IntWalk.i64_in _ (by omega)
            have hn2 : (8 * (m : Int)).toNat = 8 * m := by omega
            have hn3 : (8 : Int) * (m : Int) ≤ (len : Int) := by omega
            have hn4 : (8 : Int) * (m : Int) ≤ (c : Int) := by omega
            have hn5 : (0 : Int) ≤ 8 * (m : Int) := by omega
            by_cases hc8 : 8 * m = c
            · subst hc8
              have he0 : l.drop (8 * m) = [] := List.eq_nil_of_length_eq_zero (by omega)
              have HR := Lib.hid (r4 h1 h2 (by rw [he0]; rfl))
              have CN := Lib.hid (fun w' => bitNumber_any (some ⟨g, 0, none⟩) 0 [] w' (Row.nil _ _ _) (fun _ h => by cases h) (by decide))
              clear r1 r2 r3 r4 h1 h2 hdrop he0 hld hbd
              go_wp2_with fail
              refine (CN.out _).mono ?_
              rintro e w1 ⟨rfl, rfl⟩
              go_wp2_with fail
              with_reducible refine (CB.out _ _ HK.out).mono ?_
              rintro e w1 ⟨rfl, b1⟩
              have hbl1 := below_cat hbl b1
              go_wp2_with fail
              go_ret2
              exact ⟨by rw [HR.out]; rfl, hbl1⟩
            · have hn6 : ¬ ((c : Int) = 8 * (m : Int)) := by omega
              have hn7 : ¬ (c = 8 * m) := by omega
              have CN := fun w' c' h => bitNumber_any (some ⟨g, 0 + 8 * m, none⟩) c' (l.drop (8 * m)) w' h hbd (by omega)
              rw [hld, Nat.zero_add] at CN
              rw [Nat.zero_add] at hdrop
              have HD := Lib.hid hdrop
              have hnl := num_lt hbd
              clear hdrop hbd hld
              generalize l.drop (8 * m) = ld at CN HD r3 r4 hnl
              by_cases hnz : num ld = 0
              · have HR := Lib.hid (r4 h1 h2 hnz)
                rw [hnz] at CN
                have CN := Lib.hid CN
                clear r1 r2 r3 r4 h1 h2 hnz hnl
                go_wp2_with fail
                with_reducible refine (CN.out _ _ HD.out).mono ?_
                rintro e w1 ⟨rfl, rfl⟩
                go_wp2_with fail
                with_reducible refine (CB.out _ _ HK.out).mono ?_
                rintro e w1 ⟨rfl, b1⟩
                have hbl1 := below_cat hbl b1
                go_wp2_with fail
                go_ret2
                exact ⟨by rw [HR.out]; rfl, hbl1⟩
              · have HR := Lib.hid (r3 h1 h2 hnz)
                have hq0 : (((num ld : Nat) : Int) == 0) = false := by rw [beq_eq_false_iff_ne]; omega
                generalize ((num ld : Nat) : Int) = nl at CN hq0
                have CN := Lib.hid CN
                clear r1 r2 r3 r4 h1 h2 hnz hnl
                go_wp2_with fail
                with_reducible refine (CN.out _ _ HD.out).mono ?_
                rintro e w1 ⟨rfl, rfl⟩
                go_wp2_with fail
                go_ret2
                exact ⟨by rw [HR.out]; rfl, hbl⟩
end Go.Proofs.YtfhfpanemalbmaaDoor.SixtyX
