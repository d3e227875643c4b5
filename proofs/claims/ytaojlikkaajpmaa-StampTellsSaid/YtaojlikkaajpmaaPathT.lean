/- Beginnings of texts, and paths. -/
import Derived.Test.YtaojlikkaajpmaaWk
import Derived.Test.YtaojlikkaajpmaaTreeW
import Derived.Test.YtaojlikkaajpmaaAbsD
namespace Go.Proofs.Ytaojlikkaajpmaa.PathT
open Go.RowKit Mem Abs TreeW

/-! ### Beginnings -/
def pre (l m : List UInt8) : Bool := decide (l.take m.length = m)
theorem pre_iff (l m : List UInt8) : pre l m = true ↔ ∃ x, l = m ++ x := by
  unfold pre
  rw [decide_eq_true_eq]
  constructor
  · intro h
    exact ⟨l.drop m.length, by conv => { lhs; rw [← List.take_append_drop m.length l, h] }⟩
  · rintro ⟨x, rfl⟩
    simp
theorem pre_len {l m : List UInt8} (h : pre l m = true) : m.length ≤ l.length := by
  obtain ⟨x, rfl⟩ := (pre_iff l m).1 h
  simp
set_option maxRecDepth 100000 in
set_option maxHeartbeats 4000000 in
theorem hasPrefixL_v {l m : List UInt8} : ACalls Try.prog 88 [strT l, strT m] (.bool (pre l m)) := by
  refine fun2 tb_ok Try.func88 rfl Try.ntmps88 Try.results88 rfl fun N => ?_
  by_cases h0 : m.length ≤ l.length
  · have e : l.take ((m.length : Int)).toNat = l.take m.length := rfl
    by_cases h1 : l.take ((m.length : Int)).toNat = m
    · skip
      repeat' (first | refine zt ?_ | (refine isR ?_; first | refine zo ?_ | refine zL ?_ | refine zc4 ?_ | refine zc5 ?_ | refine zS ?_ | (refine zs4 ?_ ?_ <;> intro hc) | (refine zs5 ?_ ?_ <;> intro hc)) | refine awp_split rfl (fun hb => ?_) (fun hb => ?_) | refine zr ?_ | exact x_le)
      rw [show pre l m = true from decide_eq_true h1]; rfl
    · skip
      repeat' (first | refine zt ?_ | (refine isR ?_; first | refine zo ?_ | refine zL ?_ | refine zc4 ?_ | refine zc5 ?_ | refine zS ?_ | (refine zs4 ?_ ?_ <;> intro hc) | (refine zs5 ?_ ?_ <;> intro hc)) | refine awp_split rfl (fun hb => ?_) (fun hb => ?_) | refine zr ?_ | exact x_le)
      rw [show pre l m = false from decide_eq_false h1]; rfl
  · skip
    repeat' (first | refine zt ?_ | (refine isR ?_; first | refine zo ?_ | refine zL ?_ | refine zc4 ?_ | refine zc5 ?_ | refine zS ?_ | (refine zs4 ?_ ?_ <;> intro hc) | (refine zs5 ?_ ?_ <;> intro hc)) | refine awp_split rfl (fun hb => ?_) (fun hb => ?_) | refine zr ?_ | exact x_le)
    have : pre l m = false := by
      cases h : pre l m with
      | false => rfl
      | true => exact absurd (pre_len h) h0
    rw [this]; rfl
def cutP (l m : List UInt8) : List UInt8 × Bool := if pre l m then (l.drop m.length, true) else (l, false)
set_option maxRecDepth 100000 in
set_option maxHeartbeats 4000000 in
theorem cutPrefixL_v {l m : List UInt8} : ACalls Try.prog 85 [strT l, strT m] (.tup [strT (cutP l m).1, .bool (cutP l m).2]) := by
  have c1 := hasPrefixL_v (l := l) (m := m)
  cases hp : pre l m with
  | true =>
    have := pre_len hp
    have e : cutP l m = (l.drop m.length, true) := by unfold cutP; rw [hp]; rfl
    rw [e]
    rw [hp] at c1
    refine fun2 tb_ok Try.func85 rfl Try.ntmps85 Try.results85 rfl fun N => ?_
    repeat' (first | refine zt ?_ | (refine isR ?_; first | refine zo ?_ | refine zk c1 ?_ | refine zL ?_ | refine zS ?_) | refine awp_split rfl (fun hb => ?_) (fun hb => ?_) | refine zr ?_ | exact x_le)
    rfl
  | false =>
    have e : cutP l m = (l, false) := by unfold cutP; rw [hp]; rfl
    rw [e]
    rw [hp] at c1
    refine fun2 tb_ok Try.func85 rfl Try.ntmps85 Try.results85 rfl fun N => ?_
    repeat' (first | refine zt ?_ | (refine isR ?_; first | refine zo ?_ | refine zk c1 ?_ | refine zL ?_ | refine zS ?_) | refine awp_split rfl (fun hb => ?_) (fun hb => ?_) | refine zr ?_ | exact x_le)
    rfl
set_option maxRecDepth 100000 in
set_option maxHeartbeats 4000000 in
theorem cutPrefix_v {l m : List UInt8} : ACalls Try.prog 76 [strT l, strT m] (.tup [strT (cutP l m).1, .bool (cutP l m).2]) := by
  have c1 := cutPrefixL_v (l := l) (m := m)
  generalize cutP l m = p at *
  refine fun2 tb_ok Try.func76 rfl Try.ntmps76 Try.results76 rfl fun N => ?_
  repeat' (first | refine zt ?_ | (refine isR ?_; first | refine zo ?_ | refine zk c1 ?_) | refine awp_split rfl (fun hb => ?_) (fun hb => ?_) | refine zr ?_ | exact x_le)
  rfl
/-! ### Paths -/
def pathF (p o : List UInt8) : Bool := pre p o && (decide (p.drop o.length = []) || decide (o.getLast? = some 47) || decide ((p.drop o.length).head? = some 47))
theorem path_iff (p o : List UInt8) : pathF p o = true ↔ ∃ x, p = o ++ x ∧ (x = [] ∨ o.getLast? = some 47 ∨ x.head? = some 47) := by
  unfold pathF
  rw [Bool.and_eq_true, Bool.or_eq_true, Bool.or_eq_true, pre_iff]
  simp only [decide_eq_true_eq]
  constructor
  · rintro ⟨⟨x, rfl⟩, h⟩
    rw [List.drop_left] at h
    exact ⟨x, rfl, by rcases h with (h | h) | h <;> simp [h]⟩
  · rintro ⟨x, rfl, h⟩
    rw [List.drop_left]
    exact ⟨⟨x, rfl⟩, by rcases h with h | h | h <;> simp [h]⟩
theorem path_trans {p f c : List UInt8} (h1 : pathF p f = true) (h2 : pathF f c = true) : pathF p c = true := by
  rw [path_iff] at *
  obtain ⟨x, rfl, hx⟩ := h1
  obtain ⟨y, rfl, hy⟩ := h2
  refine ⟨y ++ x, by simp, ?_⟩
  cases y with
  | nil => simpa using hx
  | cons b y =>
    rcases hy with h | h | h
    · cases h
    · exact .inr (.inl h)
    · exact .inr (.inr (by simpa using h))
end Go.Proofs.Ytaojlikkaajpmaa.PathT
