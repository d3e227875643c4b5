/- append(own, handed...) for slices of strings, whatever was handed. -/
import Derived.Test.YtmcihmcgkhijcaaChainT
import Derived.Laws.AppendOwnNone
namespace Go.Proofs.Ytmcihmcgkhijcaa.ChainA
open Go.RowKit ChainW ChainH ChainT

theorem infoStr : (Try.prog.info? 9).map (fun i => (i.zero, i.size, i.bytes)) = some (some (.string ⟨#[]⟩), 1, 16) := by kernel_rfl
theorem wpList_append_strs {w : World} {ops : Array Oper} {rest : List Oper} {o : Oper} {a : Act} {Q : Exit → Act → World → Prop} (hgd : o.guard = none) (s x : Operand)
    (ho : o.op = .call { callee := .builtin .append, args := #[s, x], argTypes := #[27, 27] })
    (base : Nat) (v : Value) (n : Nat) (xs : List Value) (hs : a.eval s = v) (hown : w.ownsRow base 9 1 v n xs)
    (A : Option Addr) (c : Nat) (L : List ByteArray) (B : Nat) (hx : a.eval x = .slice A L.length c) (hL : Strs w B A L) (hnil : A = none → c = 0) (hby : (n + L.length) * 16 ≤ 140737488355328) (hbase : base ≤ w.heap.size)
    (h : ∀ v' w', w'.ownsRow base 9 1 v' (n + L.length) (xs ++ L.map Value.string) → w.grownBy w' v.ownBlock → wpList Try.prog ops Q rest (a.put o.dst v') w') : wpList Try.prog ops Q (o :: rest) a w := by
  obtain ⟨i0, hi, hz0, hz1, hz2⟩ := info_parts infoStr
  cases A with
  | none =>
    have hl : L = [] := by
      rcases L with _ | ⟨y, l⟩
      · rfl
      · obtain ⟨_, _, e, _⟩ := hL (by simp)
        cases e
    subst hl
    rw [hnil rfl] at hx
    refine wpList_append_own_none hgd s x 27 ho base 9 i0 1 Try.underlying27 hi v n xs hs hown hx ?_
    exact h v w (by simpa using hown) ⟨rfl, rfl, rfl, Nat.le_refl _, fun _ _ _ => rfl⟩
  | some ad =>
    refine wpList_append_own _ hgd s x 27 ho base 9 i0 (.string ⟨#[]⟩) 1 16 Try.underlying27 hi hz0 hz1 hz2 rfl (by decide) v n xs hs hown ad L.length c (L.map Value.string) hx (by simp) ?_ (by simp [Value.oneCell']) (by unfold maxLen; omega) hby hbase (fun v' w' h1 h2 _ => h v' w' h1 h2)
    intro j u hj
    simp at hj
    obtain ⟨y, hy, rfl⟩ := hj
    obtain ⟨hjl, rfl⟩ := List.getElem?_eq_some_iff.1 hy
    obtain ⟨b, o', e, _, hc⟩ := hL (by omega)
    cases e
    have := hc j hjl
    unfold Addr.add
    split
    · subst_vars; simpa using this
    · exact this
theorem own_strs {w : World} {base n : Nat} {v : Value} {xs : List Value} {L : List ByteArray} (h : w.ownsRow base 9 1 v n xs) (hx : xs = L.map Value.string) : ∃ A c, v = .slice A L.length c ∧ n = L.length ∧ Strs w w.heap.size A L := by
  have hl : n = L.length := by have := h.1; rw [hx] at this; simp at this; omega
  have h0 := h
  rcases h.2 with ⟨rfl, h2⟩ | ⟨g, cap, cur, rfl, hg, hh, _⟩
  · exact ⟨none, 0, by rw [← hl, h2], hl, fun hp => by omega⟩
  · refine ⟨some ⟨g, 0, none⟩, cap, by rw [hl], hl, fun _ => ⟨g, 0, rfl, (h.lt g rfl).2, fun j hj => ?_⟩⟩
    rw [Nat.zero_add, h0.cellAt j (by omega), hx]
    simp [hj]
end Go.Proofs.Ytmcihmcgkhijcaa.ChainA
