/- The walks of the laws SixtyBack, SixtyJoins. -/
import Derived.Test.YtagijlfjdknhpaaDoorSixtyR
namespace Go.Proofs.YtagijlfjdknhpaaDoor.SixtyL
open Go.RowKit Mem BitsP BitsS BitsT SixtyP WordW SixtyW SixtyQ SixtyR

/-- A call that gives a text and a code. -/
def Two (a : ByteArray) (n : Int) (w : World) (e : Ending) (w' : World) : Prop := e = .returned (.tuple #[.string a, .int .i64 n]) ∧ Below w.heap.size w w'
theorem w_ok (s : ByteArray) (w : World) (h : s.size ≤ 400) : Calls Tryd.prog 12 #[.string s] w (Two (str (enc6 (tbits s.data.toList))) 0 w) := by
  have := swrite_any s w (by omega)
  unfold writeF at this
  rw [if_neg (by simpa using h)] at this
  exact this
theorem w_many (s : ByteArray) (w : World) (h : ¬ s.size ≤ 400) (hs : s.size ≤ 281474976710656) : Calls Tryd.prog 12 #[.string s] w (Two ⟨#[]⟩ 2 w) := by
  have := swrite_any s w hs
  unfold writeF at this
  rw [if_pos (by simpa using h)] at this
  exact this
theorem r_of (t : ByteArray) (w : World) (hs : t.size ≤ 140737488355328) {a : List UInt8} {n : Nat} (h : readF t.data.toList = (a, n)) : Calls Tryd.prog 13 #[.string t] w (Two (str a) n w) := by
  have := sread_any t w hs
  rw [h] at this
  exact this
theorem read_code (t : List UInt8) : (∃ a, readF t = (a, 0)) ∨ readF t = ([], 1) ∨ readF t = ([], 2) := by
  unfold readF
  repeat' split
  all_goals first | exact .inr (.inl rfl) | exact .inr (.inr rfl) | exact .inl ⟨_, rfl⟩
theorem beq_self (b : ByteArray) : (b.toList == b.toList) = true := by simp
set_option maxRecDepth 100000 in
set_option maxHeartbeats 4000000 in
theorem sixtyBegun_any (w : World) : Calls Tryd.prog 16 #[] w (Gives (.bool true) w) := by
  have C1 := Lib.hid (fun w' => (show Calls Tryd.prog 12 #[.string ⟨#[255, 239, 190, 63]⟩] w' (Two ⟨#[95, 45, 45, 45, 80, 119]⟩ 0 w') from by
    have h := w_ok ⟨#[255, 239, 190, 63]⟩ w' (by decide)
    rw [show str (enc6 (tbits (⟨#[255, 239, 190, 63]⟩ : ByteArray).data.toList)) = ⟨#[95, 45, 45, 45, 80, 119]⟩ from by decide +kernel] at h
    exact h))
  have C2 := Lib.hid (fun w' => (show Calls Tryd.prog 13 #[.string ⟨#[95, 45, 45, 45]⟩] w' (Two ⟨#[255, 239, 190]⟩ 0 w') from
    r_of ⟨#[95, 45, 45, 45]⟩ w' (by decide) (a := [255, 239, 190]) (n := 0) (by decide +kernel)))
  have C3 := Lib.hid (fun w' => (show Calls Tryd.prog 13 #[.string ⟨#[95, 45, 66]⟩] w' (Two ⟨#[]⟩ 1 w') from
    r_of ⟨#[95, 45, 66]⟩ w' (by decide) (a := []) (n := 1) (by decide +kernel)))
  have C4 := Lib.hid (fun w' => (show Calls Tryd.prog 13 #[.string ⟨#[65]⟩] w' (Two ⟨#[]⟩ 1 w') from
    r_of ⟨#[65]⟩ w' (by decide) (a := []) (n := 1) (by decide +kernel)))
  go_enter Tryd.func16, Tryd.ntmps16
  go_wp2_with fail
  refine (C1.out _).mono ?_
  rintro e w1 ⟨rfl, b1⟩
  go_wp2_with fail
  refine (C2.out _).mono ?_
  rintro e w2 ⟨rfl, b2⟩
  go_wp2_with fail
  refine (C3.out _).mono ?_
  rintro e w3 ⟨rfl, b3⟩
  go_wp2_with fail
  refine (C4.out _).mono ?_
  rintro e w4 ⟨rfl, b4⟩
  have hb := below_cat (below_cat (below_cat b1 b2) b3) b4
  go_wp2_with fail
  go_ret
  exact ⟨rfl, hb⟩
set_option maxRecDepth 100000 in
set_option maxHeartbeats 4000000 in
theorem sixtyBack_any (s t : ByteArray) (w : World) (hs : s.size ≤ 140737488351232) (ht : t.size ≤ 140737488351232) : Calls Tryd.prog 4 #[.string s, .string t] w (Gives (.bool true) w) := by
  have C0 := Lib.hid (fun w' => sixtyBegun_any w')
  have hW : (∀ w', Calls Tryd.prog 12 #[.string s] w' (Two ⟨#[]⟩ 2 w')) ∨ ∃ a : ByteArray, (∀ w', Calls Tryd.prog 12 #[.string s] w' (Two a 0 w')) ∧ (∀ w', Calls Tryd.prog 13 #[.string a] w' (Two s 0 w')) ∧ 8 * s.size ≤ 6 * a.size ∧ 6 * a.size ≤ 8 * s.size + 5 ∧ a.size ≤ 1000 := by
    by_cases h : s.size ≤ 400
    · obtain ⟨h1, h2⟩ := read_write s.data.toList (by simpa using h)
      have hsz : (str (enc6 (tbits s.data.toList))).size = (8 * s.size + 5) / 6 := by rw [str_size, h2]; simp
      refine .inr ⟨_, fun w' => w_ok s w' h, fun w' => ?_, by omega, by omega, by omega⟩
      have h3 := r_of (str (enc6 (tbits s.data.toList))) w' (by omega) (a := s.data.toList) (n := 0) (by simpa [str] using h1)
      rw [show str s.data.toList = s from mkB s] at h3
      exact h3
    · exact .inl fun w' => w_many s w' h (by omega)
  have hR : (∃ b : ByteArray, (∀ w', Calls Tryd.prog 13 #[.string t] w' (Two b 0 w')) ∧ (∀ w', Calls Tryd.prog 12 #[.string b] w' (Two t 0 w'))) ∨ (∀ w', Calls Tryd.prog 13 #[.string t] w' (Two ⟨#[]⟩ 1 w')) ∨ (∀ w', Calls Tryd.prog 13 #[.string t] w' (Two ⟨#[]⟩ 2 w')) := by
    rcases read_code t.data.toList with ⟨b, h⟩ | h | h
    · obtain ⟨h1, h2⟩ := write_read t.data.toList (by rw [h])
      rw [h] at h1 h2
      refine .inl ⟨str b, fun w' => r_of t w' (by omega) h, fun w' => ?_⟩
      have h3 := w_ok (str b) w' (by rw [str_size]; exact h1)
      rw [show (str b).data.toList = b from by simp [str], h2, show str t.data.toList = t from mkB t] at h3
      exact h3
    · exact .inr (.inl fun w' => r_of t w' (by omega) h)
    · exact .inr (.inr fun w' => r_of t w' (by omega) h)
  have q1 := beq_self s
  have q2 := beq_self t
  rcases hW with C1 | ⟨a, C1, C2, l1, l2, l3⟩
  all_goals
    have C1 := Lib.hid C1
    rcases hR with ⟨b, C3, C4⟩ | C3 | C3
    all_goals
      have C3 := Lib.hid C3
      try have C2 := Lib.hid C2
      try have C4 := Lib.hid C4
      try have l4 : (8 : Int) * (s.size : Int) ≤ 6 * (a.size : Int) := by omega
      try have l5 : (6 : Int) * (a.size : Int) ≤ 8 * (s.size : Int) + 5 := by omega
      try have k1 : ((6 : Int) * (a.size : Int) < 8 * (s.size : Int)) = False := by simp; omega
      go_enter Tryd.func4, Tryd.ntmps4
      go_wp2_with fail
      refine (C1.out _).mono ?_
      rintro e w1 ⟨rfl, b1⟩
      go_wp2_with fail
      refine (C3.out _).mono ?_
      rintro e w2 ⟨rfl, b2⟩
      go_wp2_with fail
      refine (C0.out _).mono ?_
      rintro e w3 ⟨rfl, b3⟩
      have hb := below_cat (below_cat b1 b2) b3
      clear b1 b2 b3
      go_wp2_with fail
  · refine (C4.out _).mono ?_
    rintro e w4 ⟨rfl, b4⟩
    have hb4 := below_cat hb b4
    go_wp2_with fail
    go_ret
    exact ⟨rfl, hb4⟩
  · go_ret
    exact ⟨rfl, hb⟩
  · go_ret
    exact ⟨rfl, hb⟩
  · refine (C2.out _).mono ?_
    rintro e w4 ⟨rfl, b4⟩
    have hb4 := below_cat hb b4
    go_wp2_with fail
    refine (C4.out _).mono ?_
    rintro e w5 ⟨rfl, b5⟩
    have hb5 := below_cat hb4 b5
    go_wp2_with fail
    go_ret
    exact ⟨rfl, hb5⟩
  · refine (C2.out _).mono ?_
    rintro e w4 ⟨rfl, b4⟩
    have hb4 := below_cat hb b4
    go_wp2_with fail
    go_ret
    exact ⟨rfl, hb4⟩
  · refine (C2.out _).mono ?_
    rintro e w4 ⟨rfl, b4⟩
    have hb4 := below_cat hb b4
    go_wp2_with fail
    go_ret
    exact ⟨rfl, hb4⟩
set_option maxRecDepth 100000 in
set_option maxHeartbeats 4000000 in
theorem sixtyJoins_any (s t : ByteArray) (w : World) (hs : s.size ≤ 140737488351232) (ht : t.size ≤ 140737488351232) : Calls Tryd.prog 5 #[.string s, .string t] w (Gives (.bool true) w) := by
  have C0 := Lib.hid (fun w' => sixtyBegun_any w')
  have hm4 : (s.size : Int).tmod 3 = ((s.size % 3 : Nat) : Int) := by rw [Int.tmod_eq_emod_of_nonneg (by omega)]; omega
  by_cases h3 : s.size % 3 = 0
  · rw [h3] at hm4
    have hcat : (s ++ t).size = s.size + t.size := by simp
    have key : (∃ a b : ByteArray, a.size ≤ 1000 ∧ b.size ≤ 1000 ∧ (∀ w', Calls Tryd.prog 12 #[.string s] w' (Two a 0 w')) ∧ (∀ w', Calls Tryd.prog 12 #[.string t] w' (Two b 0 w')) ∧ (∀ w', Calls Tryd.prog 12 #[.string (s ++ t)] w' (Two (a ++ b) 0 w'))) ∨
        ∃ (a b : ByteArray) (m n : Int), (∀ w', Calls Tryd.prog 12 #[.string s] w' (Two a m w')) ∧ (∀ w', Calls Tryd.prog 12 #[.string t] w' (Two b n w')) ∧ (∀ w', Calls Tryd.prog 12 #[.string (s ++ t)] w' (Two ⟨#[]⟩ 2 w')) := by
      by_cases h : (s ++ t).size ≤ 400
      · have hz : ∀ x : ByteArray, x.size ≤ 400 → (str (enc6 (tbits x.data.toList))).size ≤ 1000 := fun x hx => by
          rw [str_size, enc6_len _ _ (Nat.le_refl _), tbits_len]
          have : x.data.toList.length = x.size := by simp
          omega
        refine .inl ⟨_, _, hz s (by omega), hz t (by omega), fun w' => w_ok s w' (by omega), fun w' => w_ok t w' (by omega), fun w' => ?_⟩
        have h1 := w_ok (s ++ t) w' h
        have e : tbits (s ++ t).data.toList = tbits s.data.toList ++ tbits t.data.toList := by rw [ByteArray.data_append, Array.toList_append, tbits_app]
        have hl : (tbits s.data.toList).length = 6 * (4 * (s.size / 3)) := by
          rw [tbits_len]
          have : s.data.toList.length = s.size := by simp
          rw [this]; omega
        rw [e, enc6_apps _ _ _ hl] at h1
        have e2 : ∀ x y : List UInt8, str (x ++ y) = str x ++ str y := fun x y => by apply ByteArray.ext; simp [str, ByteArray.data_append]
        rw [e2] at h1
        exact h1
      · refine .inr ?_
        have one : ∀ x : ByteArray, x.size ≤ 140737488351232 → ∃ (a : ByteArray) (m : Int), ∀ w', Calls Tryd.prog 12 #[.string x] w' (Two a m w') := fun x hx => by
          by_cases hx4 : x.size ≤ 400
          · exact ⟨_, _, fun w' => w_ok x w' hx4⟩
          · exact ⟨_, _, fun w' => w_many x w' hx4 (by omega)⟩
        obtain ⟨a, m, h1⟩ := one s hs
        obtain ⟨b, n, h2⟩ := one t ht
        exact ⟨a, b, m, n, h1, h2, fun w' => w_many (s ++ t) w' h (by omega)⟩
    rcases key with ⟨a, b, za, zb, C1, C2, C3⟩ | ⟨a, b, m, n, C1, C2, C3⟩
    all_goals
      have C1 := Lib.hid C1
      have C2 := Lib.hid C2
      have C3 := Lib.hid C3
      have q1 := beq_self (a ++ b)
      clear hcat h3
      go_enter Tryd.func5, Tryd.ntmps5
      go_wp2_with fail
      refine (C0.out _).mono ?_
      rintro e w1 ⟨rfl, b1⟩
      go_wp2_with fail
      refine (C1.out _).mono ?_
      rintro e w2 ⟨rfl, b2⟩
      go_wp2_with fail
      refine (C2.out _).mono ?_
      rintro e w3 ⟨rfl, b3⟩
      go_wp2_with fail
      refine (C3.out _).mono ?_
      rintro e w4 ⟨rfl, b4⟩
      have hb := below_cat (below_cat (below_cat b1 b2) b3) b4
      clear b1 b2 b3 b4
      go_wp2_with fail
      go_ret
      exact ⟨rfl, hb⟩
  · have hm5 : (((s.size % 3 : Nat) : Int) == 0) = false := by rw [beq_eq_false_iff_ne]; omega
    generalize ((s.size % 3 : Nat) : Int) = q at hm4 hm5
    clear h3
    go_enter Tryd.func5, Tryd.ntmps5
    go_wp2_with fail
    refine (C0.out _).mono ?_
    rintro e w1 ⟨rfl, b1⟩
    go_wp2_with fail
    go_ret
    exact ⟨rfl, b1⟩
end Go.Proofs.YtagijlfjdknhpaaDoor.SixtyL
