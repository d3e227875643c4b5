/- strings.Split at a byte, over trees. -/
import Derived.Test.YtdimidhacccdjaaDoorTreeW
import Derived.Test.YtdimidhacccdjaaDoorShelf
import Derived.Lib.SplitLaws
import Derived.Lib.IndexBytes
namespace Go.Proofs.YtdimidhacccdjaaDoor.SplT
open Go.RowKit Mem Abs TreeW WordS
/-- What is known of the package's variables tells of bytealg's number. -/
def HasMax (g : Glob) : Prop := 3 < g.n ∧ ∀ h, g.P h → ∃ m T fr, h 3 = some (.cells #[.int .i64 m] T fr)
theorem max_cell {g : Glob} {X : Nat → Prop} {w : World} (hg : HasMax g) (h : GlOk g X w) : ∃ m, w.cell? ⟨3, 0, none⟩ = some (.int .i64 m) := by
  obtain ⟨m, T, fr, hm⟩ := hg.2 _ h.2.2
  simp only [hg.1, if_true] at hm
  exact ⟨m, by simp [World.cell?, hm]⟩
theorem str_data (l : List UInt8) : (str l).data.toList = l := by simp [str]
theorem split_is (c : UInt8) : ∀ (n : Nat) (l : List UInt8), l.length ≤ n → Lib.splitB (str [c]) 0 (Lib.countB (str l) (str [c])) (str l) = (split c l).map str
  | n, l, hn => by
    have hi : Lib.indexB (str l) (str [c]) = Lib.indexByte l c := by
      show Lib.index (str l).data.toList (str [c]).data.toList = _
      rw [str_data, str_data, Lib.index_one]
    have h1 : (str [c]).size = 1 := rfl
    rcases first_at c l with h | ⟨a, r, rfl, ha⟩
    · rw [index_none l c h] at hi
      rw [Lib.countB_miss _ _ hi, Lib.splitB_zero, split_none c l h]
      rfl
    · rw [index_at a r c ha] at hi
      have e1 : (str (a ++ c :: r)).extract 0 (a.length + 0) = str a := by
        rw [str_slice, Nat.add_zero, List.take_left, List.drop_zero]
      have e2 : (str (a ++ c :: r)).extract (a.length + (str [c]).size) (str (a ++ c :: r)).size = str r := by
        rw [h1, str_slice, str_size, List.take_length, show a.length + 1 = (a ++ [c]).length by simp, show a ++ c :: r = (a ++ [c]) ++ r by simp, List.drop_left]
      rw [Lib.countB_hit _ _ a.length (by rw [h1]; exact Nat.le_refl _) hi, Nat.add_comm 1, Lib.splitB_hit _ _ _ _ a.length hi, e1, e2, split_app c a r ha]
      cases n with
      | zero => simp at hn
      | succ n =>
        rw [split_is c n r (by simp at hn; omega)]
        rfl
theorem split_v {g : Glob} (hg : HasMax g) {l : List UInt8} {c : UInt8} (hl : l.length < 4294967281) : ACallsG Tryd.prog g 45 [strT l, strT [c]] (strsT (split c l)) := fun N w vs hG hN hlen hv => by
  obtain ⟨vs⟩ := vs
  match vs, hlen with
  | [x0, x1], _ =>
    obtain ⟨rfl, h0⟩ := fz_str (hv 0 _ x0 rfl rfl)
    obtain ⟨rfl, h1⟩ := fz_str (hv 1 _ x1 rfl rfl)
    obtain ⟨k, hk⟩ := max_cell hg hG
    have hlen2 := split_len c l
    have hin := split_in (u := c) (l := l) (fun _ _ => trivial)
    refine (Tryd.strings_Split (str l) (str [c]) k w (by rw [str_size]; exact hl) hk (Nat.le_refl 1)).mono fun e w' ⟨g1, g2⟩ => ⟨_, g1, g2 ▸ (Below.refl _ _).alloc (Nat.le_refl _) _, ?_⟩
    have hs := split_is c l.length l (Nat.le_refl _)
    have hc := Lib.splitB_all (str [c]) (Nat.le_refl 1) 0 _ (str l) rfl
    rw [hs, List.length_map] at hc
    rw [← hc, g2, hs]
    have hx : (split c l).length = ((split c l).map strT).length := by simp
    rw [show (⟨w.heap.size, 0, none⟩ : Addr) = ⟨w.heap.size, 0, none⟩ from rfl]
    generalize split c l = L at *
    rw [hx]
    refine .fro (sz := 1) (fun i _ => .string (str (L.getD i []))) (fun h => Nat.lt_irrefl _ (hN _ h)) ?_ (by decide) (Nat.le_refl _) (by rw [← hx]; simp only [LIM]; omega) (fun x hx => ?_) (fun i j x u hi hj => ?_) (fun i j x u hi hj => ?_)
    · show w.heap.size < (w.heap.push _).size
      simp
    · obtain ⟨y, _, rfl⟩ := List.mem_map.1 hx
      exact ⟨rfl, fun u hu => by simp [V.cells] at hu; subst hu; rfl⟩
    · rw [List.getElem?_map, Option.map_eq_some_iff] at hi
      obtain ⟨y, hy, rfl⟩ := hi
      have hj0 : j = 0 := by
        rcases j with _ | j
        · rfl
        · simp [V.cells] at hj
      subst hj0
      have hgd : L.getD i [] = y := by rw [List.getD_eq_getElem?_getD, hy]; rfl
      rw [hgd]
      simp only [Nat.mul_one, Nat.zero_add, Nat.add_zero]
      have hh : ∀ o : Obj, (w.alloc o).heap[w.heap.size]? = some o := fun o => by show (w.heap.push o)[w.heap.size]? = _; simp
      unfold World.cell?
      simp only [hh]
      simp [hy]
    · rw [List.getElem?_map, Option.map_eq_some_iff] at hi
      obtain ⟨y, hy, rfl⟩ := hi
      rcases j with _ | j
      · simp [V.cells] at hj
        subst hj
        have hgd : L.getD i [] = y := by rw [List.getD_eq_getElem?_getD, hy]; rfl
        rw [hgd]
        exact .str (by rw [str_size]; have := hin y (List.mem_of_getElem? hy); simp only [SLIM]; omega)
      · simp [V.cells] at hj
end Go.Proofs.YtdimidhacccdjaaDoor.SplT
