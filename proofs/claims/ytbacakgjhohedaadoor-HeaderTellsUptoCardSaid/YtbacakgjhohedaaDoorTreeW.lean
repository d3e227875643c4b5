/- The contracts of words, over named trees. -/
import Derived.Test.YtbacakgjhohedaaDoorAbsV
import Derived.Test.YtbacakgjhohedaaDoorTb
import Derived.Test.YtbacakgjhohedaaDoorWordV
import Derived.Test.YtbacakgjhohedaaDoorWordC
import Derived.Test.YtbacakgjhohedaaDoorWordR
import Derived.Test.YtbacakgjhohedaaDoorWordJ
import Derived.Test.YtbacakgjhohedaaDoorWordQ
namespace Go.Proofs.YtbacakgjhohedaaDoor.TreeW
open Go.RowKit Mem Abs WordP OneB WordS

theorem fz_strs {X : Nat → Prop} {w : World} {L : List (List UInt8)} {base T : Nat} {v : Value} (hX : ∀ b, X b → b < base) (hl : L.length ≤ LIM) (hs : ∀ l ∈ L, l.length ≤ SLIM) (h : w.ownsRow base T 1 v L.length (L.map fun l => Value.string (str l))) : Fz X w (strsT L) v :=
  owns_fz (f := strT) (g := fun l => Value.string (str l)) (fun _ => rfl) (fun _ => rfl) (fun l hl => .str (by rw [str_size]; exact hs l hl)) hX hl h
theorem str_lim {l : List UInt8} {r : List Abs.V} (h : V.LimL (strT l :: r)) : l.length ≤ 4611686018427387904 ∧ V.LimL r := by
  have := h.1
  rw [V.Lim, str_size] at this
  exact ⟨this, h.2⟩
theorem byte_in (c : UInt8) : InR .u8 (c.toNat : Int) := ⟨by simp only [rng]; omega, by have := c.toNat_lt; simp only [rng]; omega⟩
section
variable {l m : List UInt8} {u c : UInt8} {L K : List (List UInt8)}
theorem one_str {f : FuncId} {r : Abs.V} {rv : ByteArray → Value} (h : ∀ (s : ByteArray) w, s.size ≤ 4611686018427387904 → Calls Tryd.prog f #[.string s] w (Gives (rv s) w)) (hr : ∀ N w, l.length ≤ SLIM → Fz N w r (rv (str l))) : ACalls Tryd.prog f [strT l] r := fun g N w vs hG hN hlen hv => by
  obtain ⟨vs⟩ := vs
  match vs, hlen with
  | [x0], _ =>
    obtain ⟨rfl, h0⟩ := fz_str (hv 0 _ x0 rfl rfl)
    exact (h _ w h0).mono fun e w' ⟨h1, h2⟩ => ⟨_, h1, h2, hr N w' (by rw [str_size] at h0; exact h0)⟩
theorem two_str {f : FuncId} {r : Abs.V} {rv : ByteArray → Value} (h : ∀ (s : ByteArray) w, s.size ≤ 4611686018427387904 → Calls Tryd.prog f #[.string s, .int .u8 c.toNat] w (Gives (rv s) w)) (hr : ∀ N w, l.length ≤ SLIM → Fz N w r (rv (str l))) : ACalls Tryd.prog f [strT l, byteT c] r := fun g N w vs hG hN hlen hv => by
  obtain ⟨vs⟩ := vs
  match vs, hlen with
  | [x0, x1], _ =>
    obtain ⟨rfl, h0⟩ := fz_str (hv 0 _ x0 rfl rfl)
    obtain ⟨rfl, _⟩ := fz_int (hv 1 _ x1 rfl rfl)
    exact (h _ w h0).mono fun e w' ⟨h1, h2⟩ => ⟨_, h1, h2, hr N w' (by rw [str_size] at h0; exact h0)⟩
theorem fold_len (l : List UInt8) : (fold l).length = l.length := by simp [fold]
theorem fold_v : ACalls Tryd.prog 19 [strT l] (strT (fold l)) := one_str (rv := fun s => .string (str (fold s.data.toList))) (fun s w hs => WordW.fold_any s w hs) fun N w h => by rw [str_toList]; exact .str (by rw [str_size, fold_len]; exact h)
theorem foldOf_v : ACalls Tryd.prog 26 [strT l] (strT (fold l)) := one_str (rv := fun s => .string (str (fold s.data.toList))) (fun s w hs => WordV.foldOf_any s w hs) fun N w h => by rw [str_toList]; exact .str (by rw [str_size, fold_len]; exact h)
theorem trim_len (l : List UInt8) : (trim l).length ≤ l.length := by
  unfold trim rdrop
  rw [List.length_reverse]
  have h1 : ((l.dropWhile blankB).reverse.dropWhile blankB).length ≤ (l.dropWhile blankB).reverse.length := (List.dropWhile_sublist _).length_le
  have h2 : (l.dropWhile blankB).length ≤ l.length := (List.dropWhile_sublist _).length_le
  rw [List.length_reverse] at h1
  omega
theorem trim_v : ACalls Tryd.prog 18 [strT l] (strT (trim l)) := one_str (rv := fun s => .string (str (trim s.data.toList))) (fun s w hs => WordC.trim_any s w hs) fun N w h => by rw [str_toList]; exact .str (by rw [str_size]; exact Nat.le_trans (trim_len l) h)
theorem trimOf_v : ACalls Tryd.prog 39 [strT l] (strT (trim l)) := one_str (rv := fun s => .string (str (trim s.data.toList))) (fun s w hs => (WordV.trimOf_any s w hs).mono fun e w' ⟨h1, h2⟩ => ⟨h1, h2 ▸ Below.refl _ _⟩) fun N w h => by rw [str_toList]; exact .str (by rw [str_size]; exact Nat.le_trans (trim_len l) h)
/-- Where a byte stands; -1: nowhere. -/
abbrev posB (c : UInt8) (l : List UInt8) : Int := Lib.indexByte l c
theorem pos_in (c : UInt8) (l : List UInt8) : -1 ≤ posB c l ∧ (posB c l < l.length) := by
  rcases first_at c l with h | ⟨a, r, rfl, h⟩
  · rw [posB, index_none l c h]; omega
  · rw [posB, index_at a r c h]; simp; omega
theorem pos_none {c : UInt8} {l : List UInt8} : posB c l < 0 ↔ l.contains c = false := by
  have := index_ge l c
  by_cases h : l.contains c = true
  · rw [h, decide_eq_true_eq] at this
    simp [posB]; constructor
    · intro h2; omega
    · intro h2; simp at h; exact absurd h h2
  · simp only [Bool.not_eq_true] at h
    rw [h, decide_eq_false_iff_not] at this
    simp only [posB, h, iff_true]; omega
theorem split_in (_h : ∀ x ∈ split u l, True) : ∀ x ∈ split u l, x.length ≤ l.length := by
  clear _h
  suffices H : ∀ (n : Nat) (l : List UInt8), l.length ≤ n → ∀ x ∈ split u l, x.length ≤ l.length from H l.length l (Nat.le_refl _)
  intro n
  induction n with
  | zero =>
    intro l hl x hx
    have : l = [] := List.eq_nil_of_length_eq_zero (by omega)
    subst this
    rw [split_none _ _ rfl, List.mem_singleton] at hx
    subst hx; exact Nat.le_refl _
  | succ n ih =>
    intro l hl x hx
    rcases first_at u l with h | ⟨a, r, rfl, h⟩
    · rw [split_none _ _ h, List.mem_singleton] at hx
      subst hx; exact Nat.le_refl _
    · rw [split_app _ _ _ h] at hx
      simp only [List.length_append, List.length_cons] at hl ⊢
      rcases List.mem_cons.1 hx with rfl | hx
      · omega
      · have := ih r (by omega) x hx; omega
theorem placeOf_v : ACalls Tryd.prog 32 [strT l, byteT c] (.int .i64 (posB c l)) := two_str (rv := fun s => .int .i64 (Lib.indexByte s.data.toList c)) (fun s w hs => WordV.placeOf_any s c w hs) fun N w h => by
  rw [str_toList]
  have := pos_in c l
  simp only [SLIM] at h
  exact .int ⟨by simp only [rng, posB] at *; omega, by simp only [rng, posB] at *; omega⟩
theorem indexByte_v : ACalls Tryd.prog 36 [strT l, byteT c] (.int .i64 (posB c l)) := two_str (rv := fun s => .int .i64 (Lib.indexByte s.data.toList c)) (fun s w hs => (WordC.index_any s c w).mono fun e w' ⟨h1, h2⟩ => ⟨h1, h2 ▸ Below.refl _ _⟩) fun N w h => by
  rw [str_toList]
  have := pos_in c l
  simp only [SLIM] at h
  exact .int ⟨by simp only [rng, posB] at *; omega, by simp only [rng, posB] at *; omega⟩
/-- Cut at the first such byte. -/
def cutF (c : UInt8) (l : List UInt8) : List UInt8 × List UInt8 × Bool := if l.contains c then (l.take (posB c l).toNat, l.drop ((posB c l).toNat + 1), true) else (l, [], false)
theorem cutF_none {c : UInt8} {l : List UInt8} (h : l.contains c = false) : cutF c l = (l, [], false) := by unfold cutF; rw [h]; rfl
theorem cutF_at {c : UInt8} {a r : List UInt8} (h : a.contains c = false) : cutF c (a ++ c :: r) = (a, r, true) := by
  unfold cutF
  have e : (a ++ c :: r).contains c = true := by simp
  rw [e, if_pos rfl, posB, index_at a r c h]
  simp
theorem cutF_len (c : UInt8) (l : List UInt8) : (cutF c l).1.length ≤ l.length ∧ (cutF c l).2.1.length ≤ l.length := by
  unfold cutF
  split
  · simp; omega
  · simp
theorem cut_v : ACalls Tryd.prog 17 [strT l, byteT c] (.tup [strT (cutF c l).1, strT (cutF c l).2.1, .bool (cutF c l).2.2]) := fun g N w vs hG hN hlen hv => by
  obtain ⟨vs⟩ := vs
  match vs, hlen with
  | [x0, x1], _ =>
    obtain ⟨rfl, h0⟩ := fz_str (hv 0 _ x0 rfl rfl)
    obtain ⟨rfl, _⟩ := fz_int (hv 1 _ x1 rfl rfl)
    refine (WordC.cut_any _ c w h0).mono fun e w' ⟨h1, h2⟩ => ⟨_, h1, h2, ?_⟩
    have e : WordC.cut c (str l).data.toList = cutF c l := by
      rw [str_toList]
      rcases first_at c l with h | ⟨a, r, rfl, h⟩
      · rw [WordC.cut_none h, cutF_none h]
      · rw [WordC.cut_at h, cutF_at h]
    have hc := cutF_len c l
    rw [str_size] at h0
    rw [e]
    refine .tup rfl fun i x y hx hy => ?_
    have hi : i < 3 := (List.getElem?_eq_some_iff.1 hx).1
    have : i = 0 ∨ i = 1 ∨ i = 2 := by omega
    rcases this with rfl | rfl | rfl <;> (cases hx; cases hy)
    · exact .str (by rw [str_size]; exact Nat.le_trans hc.1 h0)
    · exact .str (by rw [str_size]; exact Nat.le_trans hc.2 h0)
    · exact .bool
theorem shut_parts {f : FuncId} (hl : l.length ≤ 4398046511104) (h : ∀ (s : ByteArray) w, s.size ≤ 4398046511104 → Calls Tryd.prog f #[.string s, .int .u8 u.toNat] w (GivesRow w.heap.size 9 (split u s.data.toList).length (((split u s.data.toList).map str).map Value.string) w)) : ACalls Tryd.prog f [strT l, byteT u] (strsT (split u l)) := fun g N w vs hG hN hlen hv => by
  obtain ⟨vs⟩ := vs
  match vs, hlen with
  | [x0, x1], _ =>
    obtain ⟨rfl, h0⟩ := fz_str (hv 0 _ x0 rfl rfl)
    obtain ⟨rfl, _⟩ := fz_int (hv 1 _ x1 rfl rfl)
    refine (h _ w (by rw [str_size]; exact hl)).mono fun e w' ⟨v, h1, h2, h3⟩ => ⟨_, h1, h3, ?_⟩
    rw [str_toList, List.map_map] at h2
    refine fz_strs hN ?_ (fun x hx => ?_) h2
    · have := split_len u l; simp only [LIM]; omega
    · have := split_in (u := u) (l := l) (fun _ _ => trivial) x hx; simp only [SLIM]; omega
theorem parts_v (hl : l.length ≤ 4398046511104) : ACalls Tryd.prog 16 [strT l, byteT u] (strsT (split u l)) := shut_parts hl fun s w hs => WordR.parts_any s u w hs
theorem partsOf_v (hl : l.length ≤ 4398046511104) : ACalls Tryd.prog 24 [strT l, byteT u] (strsT (split u l)) := shut_parts hl fun s w hs => WordQ.partsOf_any u (s.size + 1) s (Nat.lt_succ_self _) hs w
theorem open_strs {X : Nat → Prop} {w : World} {x : Value} (h : Fz X w (strsT L) x) : ∃ A c, x = .slice A (L.map str).length c ∧ Row w w.heap.size A ((L.map str).map Value.string) ∧ L.length ≤ LIM ∧ L.length ≤ c := by
  obtain ⟨A, c, rfl, _, h2, h3, h4⟩ := fz_row (g := fun l => Value.string (str l)) (fun _ => rfl) (fun y c h => (fz_str h).1) h
  exact ⟨A, c, by simp, by rw [List.map_map]; exact h3, h4, h2⟩
theorem map_str {L K : List (List UInt8)} : L.map str = K.map str ↔ L = K := ⟨fun h => by
  have := congrArg (List.map fun s : ByteArray => s.data.toList) h
  simpa [List.map_map, Function.comp_def, str_toList] using this, fun h => by rw [h]⟩
end
end Go.Proofs.YtbacakgjhohedaaDoor.TreeW
