/- What is known of strconv's variables and of bytealg's number, at once. -/
import Derived.Test.YtdimidhacccdjaaDoorGlob
import Derived.Test.YtdimidhacccdjaaDoorSplT
namespace Go.Proofs.YtdimidhacccdjaaDoor.Both
open Go.RowKit Mem Abs TreeW Globs SplT

def gMax : Glob := ⟨3 + 1, fun h => ∃ m T fr, h 3 = some (.cells #[.int .i64 m] T fr)⟩
def gBoth : Glob := ⟨max gStr.n gMax.n, fun f => gStr.P (fun i => if i < gStr.n then f i else none) ∧ gMax.P (fun i => if i < gMax.n then f i else none)⟩
theorem both_cut {w : World} {n m : Nat} (h : n ≤ m) : (fun i => if i < n then (if i < m then w.heap[i]? else none) else none) = fun i => if i < n then w.heap[i]? else none := by
  funext i
  by_cases hi : i < n
  · rw [if_pos hi, if_pos hi, if_pos (Nat.lt_of_lt_of_le hi h)]
  · rw [if_neg hi, if_neg hi]
theorem both_str {X : Nat → Prop} {w : World} (h : GlOk gBoth X w) : GlOk gStr X w := by
  obtain ⟨h1, h2, h3, h4⟩ := h
  have e := both_cut (w := w) (Nat.le_max_left gStr.n gMax.n)
  refine ⟨Nat.le_trans (Nat.le_max_left _ _) h1, fun b hb => Nat.le_trans (Nat.le_max_left _ _) (h2 b hb), ?_⟩
  rw [← e]
  exact h3
theorem str_g {f : FuncId} {us : List Abs.V} {r : Abs.V} (h : ACallsG Tryd.prog gStr f us r) : ACallsG Tryd.prog gBoth f us r := fun N w vs hG => h N w vs (both_str hG)
theorem hasBoth : HasMax gBoth := ⟨Nat.lt_of_lt_of_le (Nat.lt_succ_self _) (Nat.le_max_right _ _), fun _h ⟨_, m, T, fr, e⟩ => ⟨m, T, fr, (if_pos (Nat.lt_succ_self _)).symm.trans e⟩⟩
theorem glob_both {w : World} (h1 : GlOk gStr (fun _ => False) w) (h2 : GlOk gMax (fun _ => False) w) : GlOk gBoth (fun _ => False) w := by
  refine ⟨Nat.max_le.2 ⟨h1.1, h2.1⟩, fun b hb => hb.elim, ?_, ?_⟩
  · have := h1.2.2
    rw [← both_cut (w := w) (Nat.le_max_left gStr.n gMax.n)] at this
    exact this
  · have := h2.2.2
    rw [← both_cut (w := w) (Nat.le_max_right gStr.n gMax.n)] at this
    exact this
theorem glob_max {W : World} (hs : W.ShapedOpen Tryd.prog) : GlOk gMax (fun _ => False) W := by
  obtain ⟨m, hm⟩ := Tryd.laysM219.s1_3 W hs
  have hm : W.cell? ⟨3, 0, none⟩ = some (.int .i64 m) := hm
  obtain ⟨cs, he, hz, _⟩ := hs.1 3 #[.int .i64 0] _ (of_decide_eq_true (by kernel_rfl)) (show ((begin Tryd.prog (fun _ _ => 0) default).world.heap[3]?).bind Obj.row? = some (#[Value.int .i64 0], 3) by kernel_rfl)
  have h1 := (Array.getElem?_eq_some_iff.1 he).1
  obtain ⟨l⟩ := cs
  match l, hz with
  | [x], _ =>
    have hx : x = .int .i64 m := by
      have := hm
      unfold World.cell? at this
      simp only [he] at this
      simpa using this
    subst hx
    exact ⟨h1, fun b h => h.elim, m, _, _, (if_pos (Nat.lt_succ_self _)).trans he⟩
end Go.Proofs.YtdimidhacccdjaaDoor.Both
