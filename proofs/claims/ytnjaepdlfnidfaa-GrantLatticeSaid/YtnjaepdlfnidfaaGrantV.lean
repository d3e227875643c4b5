/- The contracts of grants, over named trees. -/
import Derived.Test.YtnjaepdlfnidfaaAbsG
import Derived.Test.YtnjaepdlfnidfaaTb
import Derived.Test.YtnjaepdlfnidfaaGrantN
import Derived.Test.YtnjaepdlfnidfaaGrantG
namespace Go.Proofs.Ytnjaepdlfnidfaa.GrantV
open Go.RowKit Mem Abs Scan GrantP GrantW GrantX GrantY GrantZ GrantM GrantB GrantC GrantD GrantE GrantH GrantI GrantJ GrantK GrantN GrantG

abbrev intT (L : List Int) : Abs.V := .fro (L.map (Abs.V.int .i64))
abbrev conT (g : Int) (P : Nat → Bool) (L : List Int) : Abs.V := .agg [.int .i64 g, .bool (P 0), .bool (P 1), .bool (P 2), .bool (P 3), .bool (P 4), .bool (P 5), .bool (P 6), .bool (P 7), .bool (P 8), .bool (P 9), intT L]
/-- What makes a consent, and a code. -/
abbrev resT (r : Int × (Nat → Bool) × List Int × Nat) : Abs.V := .tup [conT r.1 r.2.1 r.2.2.1, .int .i64 ((r.2.2.2 : Nat) : Int)]
theorem open_con {N : Nat → Prop} {w : World} {g : Int} {P : Nat → Bool} {L : List Int} {x : Value} (h : Fz N w (conT g P L) x) : ∃ A c, x = conV g P A L.length c ∧ Row w w.heap.size A (intV L) ∧ L.length ≤ LIM := by
  obtain ⟨cs, rfl, h1, h2⟩ := fz_agg h
  obtain ⟨l⟩ := cs
  match l, h1 with
  | [c0, c1, c2, c3, c4, c5, c6, c7, c8, c9, c10, c11], _ =>
    obtain rfl := (fz_int (h2 0 _ c0 rfl rfl)).1
    obtain rfl := fz_bool (h2 1 _ c1 rfl rfl)
    obtain rfl := fz_bool (h2 2 _ c2 rfl rfl)
    obtain rfl := fz_bool (h2 3 _ c3 rfl rfl)
    obtain rfl := fz_bool (h2 4 _ c4 rfl rfl)
    obtain rfl := fz_bool (h2 5 _ c5 rfl rfl)
    obtain rfl := fz_bool (h2 6 _ c6 rfl rfl)
    obtain rfl := fz_bool (h2 7 _ c7 rfl rfl)
    obtain rfl := fz_bool (h2 8 _ c8 rfl rfl)
    obtain rfl := fz_bool (h2 9 _ c9 rfl rfl)
    obtain rfl := fz_bool (h2 10 _ c10 rfl rfl)
    obtain ⟨A, c, rfl, _, _, h3, h4⟩ := fz_row (g := Value.int .i64) (fun _ => rfl) (fun y c h => (fz_int h).1) (h2 11 _ c11 rfl rfl)
    exact ⟨A, c, rfl, h3, h4⟩
theorem ints_of {L : List Int} (h : (intT L).Lim) : Ints L := by
  rw [intT, V.Lim, limL_iff] at h
  exact fun v hv => wf_inR.2 (h.2 (.int .i64 v) (List.mem_map.2 ⟨v, hv, rfl⟩))
theorem shut_con {N : Nat → Prop} {w0 w : World} {g : Int} {P : Nat → Bool} {L : List Int} {v : Value} (hN : ∀ b, N b → b < w0.heap.size) (hg : InR .i64 g) (hL : Ints L) (hl : L.length ≤ LIM) (h : w.ownsRow w0.heap.size 3 1 v L.length (intV L)) : Fz N w (conT g P L) (.agg (conC g P v)) := by
  have h1 : Fz N w (intT L) v := owns_fz (fun _ => rfl) (fun _ => rfl) (fun y hy => .int (wf_inR.1 (hL y hy))) hN hl h
  refine .agg rfl (fun v hv => ?_) (fun i x c hx hc => ?_)
  · simp at hv
    rcases hv with rfl | rfl | rfl | rfl | rfl | rfl | rfl | rfl | rfl | rfl | rfl | rfl <;> rfl
  · have hi : i < 12 := (List.getElem?_eq_some_iff.1 hx).1
    have : i = 0 ∨ i = 1 ∨ i = 2 ∨ i = 3 ∨ i = 4 ∨ i = 5 ∨ i = 6 ∨ i = 7 ∨ i = 8 ∨ i = 9 ∨ i = 10 ∨ i = 11 := by omega
    rcases this with rfl | rfl | rfl | rfl | rfl | rfl | rfl | rfl | rfl | rfl | rfl | rfl <;> (cases hx; cases hc) <;> first | exact .int hg | exact .bool | exact h1
theorem shut_res {N : Nat → Prop} {w0 : World} {r : Int × (Nat → Bool) × List Int × Nat} {e : Ending} {w : World} (hN : ∀ b, N b → b < w0.heap.size) (hg : InR .i64 r.1) (hL : Ints r.2.2.1) (hl : r.2.2.1.length ≤ LIM) (hc : r.2.2.2 ≤ 8) (h : CPostR r w0 e w) : ∃ x, e = .returned x ∧ Below w0.heap.size w0 w ∧ Fz N w (resT r) x := by
  obtain ⟨v, rfl, how, hb⟩ := h
  refine ⟨_, rfl, hb, .tup rfl fun i x c hx hc' => ?_⟩
  have hi : i < 2 := (List.getElem?_eq_some_iff.1 hx).1
  have : i = 0 ∨ i = 1 := by omega
  rcases this with rfl | rfl <;> (cases hx; cases hc')
  · exact shut_con hN hg hL hl how
  · exact .int ⟨by simp only [rng]; omega, by simp only [rng]; omega⟩
section
variable {g g' : Int} {P Q : Nat → Bool} {L U : List Int}
theorem code_le (g : Int) (V : List Int) : GrantP.check g V ≤ 8 := by
  have h1 : codeG g ≤ 8 := by unfold codeG; split <;> omega
  have h2 : ∀ n, scan (codeV V) n ≤ 8 := fun n => by
    induction n with
    | zero => simp [scan]
    | succ n ih =>
      unfold scan
      have h3 : codeV V n ≤ 8 := by unfold codeV; split <;> (try split) <;> omega
      split <;> assumption
  have h3 := h2 V.length
  unfold GrantP.check
  split <;> omega
theorem both_in {k : Bool → Bool → Bool} (hg : InR .i64 g) (hg' : InR .i64 g') : InR .i64 (bothF k g g' P Q L U).1 ∧ Ints (bothF k g g' P Q L U).2.2.1 ∧ (bothF k g g' P Q L U).2.2.1.length ≤ LIM ∧ (bothF k g g' P Q L U).2.2.2 ≤ 8 := by
  unfold bothF
  split
  · exact ⟨inR_zero _, fit_nil.2, by simp [LIM], code_le g L⟩
  · split
    · exact ⟨inR_zero _, fit_nil.2, by simp [LIM], code_le g' U⟩
    · dsimp only
      refine ⟨?_, (fit_right (upto_right _)).2, ?_, by simp⟩
      · simp only [InR, rng] at hg hg' ⊢; omega
      · exact Nat.le_trans (right_len (upto_right _)) (by simp [LIM])
theorem drop_in {p v now : Int} (hn : InR .i64 now) (hL : Ints L) (hl : L.length ≤ LIM) : InR .i64 (dropF g P L p v now).1 ∧ Ints (dropF g P L p v now).2.2.1 ∧ (dropF g P L p v now).2.2.1.length ≤ LIM ∧ (dropF g P L p v now).2.2.2 ≤ 8 := by
  unfold dropF
  split
  · exact ⟨inR_zero _, fit_nil.2, by simp [LIM], code_le g L⟩
  · split
    · exact ⟨inR_zero _, fit_nil.2, by simp [LIM], by simp⟩
    · split
      · exact ⟨inR_zero _, fit_nil.2, by simp [LIM], by simp⟩
      · exact ⟨hn, fun x hx => hL x (List.mem_filter.1 hx).1, Nat.le_trans (List.length_filter_le _ _) hl, by simp⟩
theorem con_lim (h : (conT g P L).Lim) : InR .i64 g ∧ Ints L := by
  rw [conT, V.Lim] at h
  exact ⟨h.1, ints_of h.2.2.2.2.2.2.2.2.2.2.2.1⟩
theorem meet_v : ACalls Try.prog 7 [conT g P L, conT g' Q U] (resT (bothF (· && ·) g g' P Q L U)) := ACalls.lim fun hl N w vs hN hlen hv => by
  obtain ⟨l⟩ := vs
  match l, hlen with
  | [x0, x1], _ =>
    obtain ⟨A, c, rfl, r1, l1⟩ := open_con (hv 0 _ x0 rfl rfl)
    obtain ⟨B, d, rfl, r2, l2⟩ := open_con (hv 1 _ x1 rfl rfl)
    obtain ⟨i1, h1⟩ := con_lim hl.1
    obtain ⟨i2, h2⟩ := con_lim hl.2.1
    simp only [LIM] at l1 l2
    obtain ⟨k1, k2, k3, k4⟩ := both_in (P := P) (Q := Q) (L := L) (U := U) (k := (· && ·)) i1 i2
    exact (meet_any g g' P Q A c L B d U w r1 r2 (by omega) (by omega) h1 h2).mono fun e w' h => shut_res hN k1 k2 k3 k4 h
theorem join_v : ACalls Try.prog 8 [conT g P L, conT g' Q U] (resT (bothF (· || ·) g g' P Q L U)) := ACalls.lim fun hl N w vs hN hlen hv => by
  obtain ⟨l⟩ := vs
  match l, hlen with
  | [x0, x1], _ =>
    obtain ⟨A, c, rfl, r1, l1⟩ := open_con (hv 0 _ x0 rfl rfl)
    obtain ⟨B, d, rfl, r2, l2⟩ := open_con (hv 1 _ x1 rfl rfl)
    obtain ⟨i1, h1⟩ := con_lim hl.1
    obtain ⟨i2, h2⟩ := con_lim hl.2.1
    simp only [LIM] at l1 l2
    obtain ⟨k1, k2, k3, k4⟩ := both_in (P := P) (Q := Q) (L := L) (U := U) (k := (· || ·)) i1 i2
    exact (join_any g g' P Q A c L B d U w r1 r2 (by omega) (by omega) h1 h2).mono fun e w' h => shut_res hN k1 k2 k3 k4 h
theorem meetOf_v : ACalls Try.prog 10 [conT g P L, conT g' Q U] (resT (bothF (· && ·) g g' P Q L U)) := ACalls.lim fun hl N w vs hN hlen hv => by
  obtain ⟨l⟩ := vs
  match l, hlen with
  | [x0, x1], _ =>
    obtain ⟨A, c, rfl, r1, l1⟩ := open_con (hv 0 _ x0 rfl rfl)
    obtain ⟨B, d, rfl, r2, l2⟩ := open_con (hv 1 _ x1 rfl rfl)
    obtain ⟨i1, h1⟩ := con_lim hl.1
    obtain ⟨i2, h2⟩ := con_lim hl.2.1
    simp only [LIM] at l1 l2
    obtain ⟨k1, k2, k3, k4⟩ := both_in (P := P) (Q := Q) (L := L) (U := U) (k := (· && ·)) i1 i2
    exact (meetOf_any g g' P Q A c L B d U w r1 r2 (by omega) (by omega)).mono fun e w' h => shut_res hN k1 k2 k3 k4 h
theorem joinOf_v : ACalls Try.prog 11 [conT g P L, conT g' Q U] (resT (bothF (· || ·) g g' P Q L U)) := ACalls.lim fun hl N w vs hN hlen hv => by
  obtain ⟨l⟩ := vs
  match l, hlen with
  | [x0, x1], _ =>
    obtain ⟨A, c, rfl, r1, l1⟩ := open_con (hv 0 _ x0 rfl rfl)
    obtain ⟨B, d, rfl, r2, l2⟩ := open_con (hv 1 _ x1 rfl rfl)
    obtain ⟨i1, h1⟩ := con_lim hl.1
    obtain ⟨i2, h2⟩ := con_lim hl.2.1
    simp only [LIM] at l1 l2
    obtain ⟨k1, k2, k3, k4⟩ := both_in (P := P) (Q := Q) (L := L) (U := U) (k := (· || ·)) i1 i2
    exact (joinOf_any g g' P Q A c L B d U w r1 r2 (by omega) (by omega)).mono fun e w' h => shut_res hN k1 k2 k3 k4 h
theorem drop_v {p v now : Int} : ACalls Try.prog 9 [conT g P L, .int .i64 p, .int .i64 v, .int .i64 now] (resT (dropF g P L p v now)) := ACalls.lim fun hl N w vs hN hlen hv => by
  obtain ⟨l⟩ := vs
  match l, hlen with
  | [x0, x1, x2, x3], _ =>
    obtain ⟨A, c, rfl, r1, l1⟩ := open_con (hv 0 _ x0 rfl rfl)
    obtain ⟨rfl, _⟩ := fz_int (hv 1 _ x1 rfl rfl)
    obtain ⟨rfl, _⟩ := fz_int (hv 2 _ x2 rfl rfl)
    obtain ⟨rfl, i3⟩ := fz_int (hv 3 _ x3 rfl rfl)
    obtain ⟨i1, h1⟩ := con_lim hl.1
    obtain ⟨k1, k2, k3, k4⟩ := drop_in (g := g) (P := P) (L := L) (p := p) (v := v) i3 h1 l1
    simp only [LIM] at l1
    exact (drop_any g P A c L p v now w r1 (by omega)).mono fun e w' h => shut_res hN k1 k2 k3 k4 h
theorem dropOf_v {p v now : Int} : ACalls Try.prog 12 [conT g P L, .int .i64 p, .int .i64 v, .int .i64 now] (resT (dropF g P L p v now)) := ACalls.lim fun hl N w vs hN hlen hv => by
  obtain ⟨l⟩ := vs
  match l, hlen with
  | [x0, x1, x2, x3], _ =>
    obtain ⟨A, c, rfl, r1, l1⟩ := open_con (hv 0 _ x0 rfl rfl)
    obtain ⟨rfl, _⟩ := fz_int (hv 1 _ x1 rfl rfl)
    obtain ⟨rfl, _⟩ := fz_int (hv 2 _ x2 rfl rfl)
    obtain ⟨rfl, i3⟩ := fz_int (hv 3 _ x3 rfl rfl)
    obtain ⟨i1, h1⟩ := con_lim hl.1
    obtain ⟨k1, k2, k3, k4⟩ := drop_in (g := g) (P := P) (L := L) (p := p) (v := v) i3 h1 l1
    simp only [LIM] at l1
    exact (dropOf_any g P A c L p v now w r1 (by omega)).mono fun e w' h => shut_res hN k1 k2 k3 k4 h
theorem may_v {p v : Int} : ACalls Try.prog 14 [conT g P L, .int .i64 p, .int .i64 v] (.bool (may P L p v)) := ACalls.lim fun hl N w vs hN hlen hv => by
  obtain ⟨l⟩ := vs
  match l, hlen with
  | [x0, x1, x2], _ =>
    obtain ⟨A, c, rfl, r1, l1⟩ := open_con (hv 0 _ x0 rfl rfl)
    obtain ⟨rfl, _⟩ := fz_int (hv 1 _ x1 rfl rfl)
    obtain ⟨rfl, _⟩ := fz_int (hv 2 _ x2 rfl rfl)
    simp only [LIM] at l1
    exact (may_any g P A c L p v w r1 (by omega)).mono fun e w' ⟨h1, h2⟩ => ⟨_, h1, h2, .bool⟩
theorem mayOf_v {p v : Int} : ACalls Try.prog 15 [conT g P L, .int .i64 p, .int .i64 v] (.bool (may P L p v)) := ACalls.lim fun hl N w vs hN hlen hv => by
  obtain ⟨l⟩ := vs
  match l, hlen with
  | [x0, x1, x2], _ =>
    obtain ⟨A, c, rfl, r1, l1⟩ := open_con (hv 0 _ x0 rfl rfl)
    obtain ⟨rfl, _⟩ := fz_int (hv 1 _ x1 rfl rfl)
    obtain ⟨rfl, _⟩ := fz_int (hv 2 _ x2 rfl rfl)
    simp only [LIM] at l1
    exact (mayOf_any g P A c L p v w r1 (by omega)).mono fun e w' ⟨h1, h2⟩ => ⟨_, h1, h2, .bool⟩
theorem less_v : ACalls Try.prog 16 [conT g P L, conT g' Q U] (.bool (less P Q L U)) := ACalls.lim fun hl N w vs hN hlen hv => by
  obtain ⟨l⟩ := vs
  match l, hlen with
  | [x0, x1], _ =>
    obtain ⟨A, c, rfl, r1, l1⟩ := open_con (hv 0 _ x0 rfl rfl)
    obtain ⟨B, d, rfl, r2, l2⟩ := open_con (hv 1 _ x1 rfl rfl)
    obtain ⟨i1, h1⟩ := con_lim hl.1
    obtain ⟨i2, h2⟩ := con_lim hl.2.1
    simp only [LIM] at l1 l2
    exact (less_any g g' P Q A c L B d U w r1 r2 (by omega) (by omega) h1 h2).mono fun e w' ⟨h1, h2⟩ => ⟨_, h1, h2, .bool⟩
theorem lessOf_v : ACalls Try.prog 17 [conT g P L, conT g' Q U] (.bool (less P Q L U)) := ACalls.lim fun hl N w vs hN hlen hv => by
  obtain ⟨l⟩ := vs
  match l, hlen with
  | [x0, x1], _ =>
    obtain ⟨A, c, rfl, r1, l1⟩ := open_con (hv 0 _ x0 rfl rfl)
    obtain ⟨B, d, rfl, r2, l2⟩ := open_con (hv 1 _ x1 rfl rfl)
    simp only [LIM] at l1 l2
    exact (lessOf_any g g' P Q A c L B d U w r1 r2 (by omega) (by omega)).mono fun e w' ⟨h1, h2⟩ => ⟨_, h1, h2, .bool⟩
theorem same_v : ACalls Try.prog 18 [conT g P L, conT g' Q U] (.bool (sameC g g' P Q L U)) := ACalls.lim fun hl N w vs hN hlen hv => by
  obtain ⟨l⟩ := vs
  match l, hlen with
  | [x0, x1], _ =>
    obtain ⟨A, c, rfl, r1, l1⟩ := open_con (hv 0 _ x0 rfl rfl)
    obtain ⟨B, d, rfl, r2, l2⟩ := open_con (hv 1 _ x1 rfl rfl)
    simp only [LIM] at l1 l2
    exact (sameConsent_any g g' P Q A c L B d U w r1 r2 (by omega) (by omega)).mono fun e w' ⟨h1, h2⟩ => ⟨_, h1, h2, .bool⟩
theorem check_v : ACalls Try.prog 19 [conT g P L] (.int .i64 ((GrantP.check g L : Nat) : Int)) := ACalls.lim fun hl N w vs hN hlen hv => by
  obtain ⟨l⟩ := vs
  match l, hlen with
  | [x0], _ =>
    obtain ⟨A, c, rfl, r1, l1⟩ := open_con (hv 0 _ x0 rfl rfl)
    simp only [LIM] at l1
    exact (check_any g P A c L w r1 (by omega)).mono fun e w' ⟨h1, h2⟩ => ⟨_, h1, h2, .int ⟨by simp only [rng]; omega, by have := code_le g L; simp only [rng]; omega⟩⟩
theorem begun_v : ACalls Try.prog 13 [] (.bool true) := fun N w vs hN hlen hv => by
  obtain ⟨l⟩ := vs
  match l, hlen with
  | [], _ => exact (grantBegun_any w).mono fun e w' ⟨h1, h2⟩ => ⟨_, h1, h2, .bool⟩
end
end Go.Proofs.Ytnjaepdlfnidfaa.GrantV
