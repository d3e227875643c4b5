/- Opening a handed []string: its texts, where they lie, and what the reach says of them. -/
import Derived.SliceStrings
import Derived.SizedLaws
import Derived.Test.YtmcihmcgkhijcaaFrame
import Derived.Test.YtmcihmcgkhijcaaChainT
namespace Go.Proofs.Ytmcihmcgkhijcaa.EndsS
open Go.RowKit Go.ChangeShapes Go.WideShapes Go.ChangeShapes Go.Deep Go.Joins ChainH ChainT

section
variable {H : Type} {enc : TypeId × Value → H} {P : Program} {w : World} {base b0 : Nat} {held : Bool}
theorem weightsAll_mem' {e : TypeId} : ∀ {l : List (DataW H)} {d : DataW H}, d ∈ l → ∀ n ∈ d.weights P e, n ∈ DataW.weightsAll P e l
  | x :: l, d, h, n, hn => by
    rcases List.mem_cons.1 h with rfl | h
    · simp [DataW.weightsAll, hn]
    · simp [DataW.weightsAll, weightsAll_mem' h n hn]
theorem open_strsL {r : Reach} {t e : TypeId} {v : Value} {d : DataW H} {p : List MemPlace} (ht : P.underlying t = some (.slice e)) (he : P.underlying e = some .string) (hc : P.cellsOf e = 1) (hby : P.bytesOf e = 16)
    (hv : Value.okWide P w r b0 t v) (h : DataW.Trod enc P w base (fun _ => true) held t v d p) (hsz : ∀ n ∈ d.weights P t, n ≤ reachBytes) :
    ∃ A c L, v = .slice A (List.length L) c ∧ HS w A c L := by
  obtain ⟨A, len, cap, rfl⟩ := okWide_slice ht hv
  obtain ⟨fuel, hf⟩ := h
  rcases open_strings ht he hc hf with ⟨h0, _⟩ | ⟨a, l, c, ss, hcs, _, hl, _, hlen, hx, hcell, _⟩
  · simp [Value.cells] at h0
    obtain ⟨rfl, rfl, rfl⟩ := h0
    exact ⟨none, 0, [], rfl, fun h => absurd h (by simp), by simp, by simp, fun _ => rfl, by simp, by simp⟩
  · simp [Value.cells] at hcs
    obtain ⟨rfl, rfl, rfl⟩ := hcs
    simp at hlen
    simp only [Prod.mk.injEq] at hx
    obtain ⟨rfl, rfl⟩ := hx
    have hw : ss.length * 16 ≤ reachBytes := by
      have := hsz (((strs (ss.take len) : List (DataW H)).length + (strs (ss.drop len) : List (DataW H)).length) * P.bytesOf e) (by simp [DataW.weights, ht])
      rw [hby] at this
      simp [strs] at this
      omega
    have hr : reachBytes = 140737488351232 := rfl
    have hz : ∀ s ∈ ss.take len, s.size ≤ 140737488351232 := fun s hs => by
      have h1 : (.lit (.string s.data.toList) : DataW H) ∈ (strs (ss.take len) : List (DataW H)) := by simp only [strs]; exact List.mem_map.2 ⟨s, hs, rfl⟩
      have h2 := hsz s.data.toList.length (by
        have := weightsAll_mem' (P := P) (e := e) h1 s.data.toList.length (by simp [DataW.weights])
        simp only [DataW.weights, ht]
        exact List.mem_cons_of_mem _ (List.mem_append_left _ this))
      rw [← Lib.size_eq] at h2
      omega
    refine ⟨some a, cap, ss.take len, by simp [hlen, Nat.min_eq_left hl], fun hpos => ?_, by simp; omega, hz, fun h => by simp at h, by simp; omega, by simp; omega⟩
    have hpos' : 0 < ss.length := by simp at hpos; omega
    have hc0 := hcell 0 hpos'
    obtain ⟨b, o, sp⟩ := a
    have hsp : sp = none := by
      simp only [Addr.add, if_pos] at hc0
      cases sp with
      | none => rfl
      | some q => simp [World.cell?] at hc0; split at hc0 <;> simp at hc0
    subst hsp
    have hbl : b < w.heap.size := by
      rcases Nat.lt_or_ge b w.heap.size with h | h
      · exact h
      · simp only [Addr.add, if_pos, World.cell?] at hc0
        rw [Array.getElem?_eq_none h] at hc0
        simp at hc0
    refine ⟨b, o, rfl, hbl, fun j hj => ?_⟩
    simp at hj
    have h3 := hcell j (by omega)
    have h4 : (⟨b, o, none⟩ : Addr).add j = ⟨b, o + j, none⟩ := by
      unfold Addr.add
      split
      · subst_vars; rfl
      · rfl
    rw [h4] at h3
    rw [h3]
    congr 2
    simp [List.getD, List.getElem?_eq_getElem (show j < ss.length by omega)]
theorem str_reach {t : TypeId} {s : ByteArray} (h : ∀ n ∈ (.lit (.string s.data.toList) : DataW H).weights P t, n ≤ reachBytes) : s.size ≤ 140737488351232 := by
  have := h s.data.toList.length (by simp [DataW.weights])
  rw [← Lib.size_eq] at this
  exact this
end
theorem reach_each {H : Type} {P : Program} {ts : List TypeId} {ds : List (DataW H)} (h : (DataW.weightsEach P ts ds).all (· ≤ reachBytes) = true) (j : Nat) (t : TypeId) (d : DataW H) (ht : ts[j]? = some t) (hd : ds[j]? = some d) : ∀ n ∈ d.weights P t, n ≤ reachBytes := fun n hn => by
  simpa using List.all_eq_true.1 h _ (DataW.weights_mem_each ht hd n hn)
end Go.Proofs.Ytmcihmcgkhijcaa.EndsS
