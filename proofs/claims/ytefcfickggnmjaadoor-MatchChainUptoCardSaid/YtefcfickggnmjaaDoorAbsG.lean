/- Between rows of cells (elder contracts) and named trees. Over any program. -/
import Derived.Test.YtefcfickggnmjaaDoorAbsS
namespace Go.Proofs.YtefcfickggnmjaaDoor.Abs
open Go.RowKit Mem Facts

theorem wf_inR {k : IntKind} {n : Int} : (Lit.int k n).wf = true ↔ InR k n := by
  simp only [Lit.wf, Bool.and_eq_true, decide_eq_true_eq, InR]
  have h1 : (rng k).1 = k.min := by cases k <;> rfl
  have h2 : (rng k).2 = k.max := by cases k <;> rfl
  rw [h1, h2]
section
variable {X : Nat → Prop} {w : World}
theorem fz_agg {vs : List V} {x : Value} (h : Fz X w (.agg vs) x) : ∃ cs, x = .agg cs ∧ vs.length = cs.size ∧ ∀ (i : Nat) v c, vs[i]? = some v → cs[i]? = some c → Fz X w v c := by
  cases h with
  | agg h1 h2 h3 => exact ⟨_, rfl, h1, h3⟩
theorem fz_int {k : IntKind} {n : Int} {x : Value} (h : Fz X w (.int k n) x) : x = .int k n ∧ InR k n := by cases h with | int h => exact ⟨rfl, h⟩
theorem fz_bool {b : Bool} {x : Value} (h : Fz X w (.bool b) x) : x = .bool b := by cases h; rfl
theorem fz_str {s : ByteArray} {x : Value} (h : Fz X w (.str s) x) : x = .string s ∧ s.size ≤ SLIM := by cases h with | str h => exact ⟨rfl, h⟩
/-- Elements of one cell each. -/
theorem fz_row {α : Type} {f : α → V} {g : α → Value} {L : List α} {x : Value} (hc : ∀ y, (f y).cells = [f y]) (hf : ∀ y c, Fz X w (f y) c → c = g y) (h : Fz X w (.fro (L.map f)) x) : ∃ A c, x = .slice A L.length c ∧ (A = none → c = 0) ∧ L.length ≤ c ∧ Row w w.heap.size A (L.map g) ∧ L.length ≤ LIM := by
  have h0 := h
  generalize hL : L.map f = xs at h
  cases h with
  | fro0 h1 =>
    have : L = [] := by simpa using hL
    subst this
    exact ⟨_, _, rfl, h1, Nat.zero_le _, Row.nil _ _ _, by simp [LIM]⟩
  | @fro _ b o sz cap c h1 h2 h3 h4 h5 h6 h7 h8 =>
    subst hL
    refine ⟨some ⟨b, o, none⟩, cap, by simp, by simp, by simpa using h4, fun _ => ⟨b, o, rfl, h2, fun j hj => ?_⟩, by simpa using h5⟩
    rw [List.length_map] at hj
    have e1 : (L.map f)[j]? = some (f L[j]) := by simp [hj]
    have e2 : (f L[j]).cells[0]? = some (f L[j]) := by rw [hc]; rfl
    have hsz : sz = 1 := by
      have := (h6 _ (List.mem_of_getElem? e1)).1
      rw [hc] at this; exact this.symm
    have e3 := h7 j 0 _ _ e1 e2
    rw [hsz, Nat.mul_one, Nat.add_zero] at e3
    rw [e3, hf _ _ (h8 j 0 _ _ e1 e2)]
    simp
theorem row_fz {α : Type} {f : α → V} {g : α → Value} {L : List α} {b o cap : Nat} (hc : ∀ y, (f y).cells = [f y]) (h1 : ∀ y, (f y).one = true) (hf : ∀ y ∈ L, Fz X w (f y) (g y)) (hX : ¬ X b) (hb : b < w.heap.size) (hcap : L.length ≤ cap) (hl : L.length ≤ LIM) (hr : ∀ j (hj : j < L.length), w.cell? ⟨b, o + j, none⟩ = some (g L[j])) : Fz X w (.fro (L.map f)) (.slice (some ⟨b, o, none⟩) L.length cap) := by
  have := Fz.fro (X := X) (w := w) (xs := L.map f) (b := b) (o := o) (sz := 1) (cap := cap) (fun i _ => ((L[i]?).map g).getD undef) hX hb (by decide) (by simpa using hcap) (by simpa using hl) (fun x hx => by
      obtain ⟨y, _, rfl⟩ := List.mem_map.1 hx
      rw [hc]
      exact ⟨rfl, fun u hu => by rw [List.mem_singleton] at hu; subst hu; exact h1 y⟩) (fun i j x u hx hu => by
      rw [List.getElem?_map, Option.map_eq_some_iff] at hx
      obtain ⟨y, hy, rfl⟩ := hx
      rw [hc] at hu
      obtain ⟨hi, rfl⟩ := List.getElem?_eq_some_iff.1 hy
      have hj : j = 0 := by
        rcases j with _ | j
        · rfl
        · simp at hu
      subst hj
      rw [Nat.mul_one, Nat.add_zero, hr i hi]
      simp [hi]) (fun i j x u hx hu => by
      rw [List.getElem?_map, Option.map_eq_some_iff] at hx
      obtain ⟨y, hy, rfl⟩ := hx
      rw [hc] at hu
      have hu : u = f y := by
        rcases j with _ | j
        · simp at hu; exact hu.symm
        · simp at hu
      subst hu
      rw [hy]
      exact hf y (List.mem_of_getElem? hy))
  simpa using this
theorem owns_fz {α : Type} {f : α → V} {g : α → Value} {L : List α} {base T : Nat} {v : Value} (hc : ∀ y, (f y).cells = [f y]) (h1 : ∀ y, (f y).one = true) (hf : ∀ y ∈ L, Fz X w (f y) (g y)) (hX : ∀ b, X b → b < base) (hl : L.length ≤ LIM) (h : w.ownsRow base T 1 v L.length (L.map g)) : Fz X w (.fro (L.map f)) v := by
  obtain ⟨hlen, ⟨rfl, h2⟩ | ⟨b, cap, cur, rfl, hb, hg, hn, _, _, ht⟩⟩ := h
  · have : L = [] := by simpa using h2
    subst this
    exact .fro0 (fun _ => rfl)
  · refine row_fz hc h1 hf (fun h => by have := hX b h; omega) (block_lt hg) hn hl fun j hj => ?_
    have : (cur.toList.take (L.length * 1))[j]? = some (g L[j]) := by rw [ht]; simp [hj]
    rw [List.getElem?_take_of_lt (by omega)] at this
    simp [World.cell?, hg] at this ⊢
    exact this
end
end Go.Proofs.YtefcfickggnmjaaDoor.Abs
