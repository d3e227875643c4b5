/- What is known of strconv's variables; Atoi and Itoa over named trees. -/
import Derived.Test.YtdimidhacccdjaaDoorTreeW
import Derived.Test.YtdimidhacccdjaaDoorShelf
import Derived.Lib.LaidTab
import Derived.Lib.ItoaLen
import Derived.Lib.AppendIntMem
namespace Go.Proofs.YtdimidhacccdjaaDoor.Globs
open Go.RowKit Mem Abs TreeW

def Cells (f : Nat → Option Obj) (g : Nat) (cs : Array Value) : Prop := ∃ t fr, f g = some (.cells cs t fr)
def gN : Nat := max (max 1 2) 0 + 1
/-- strconv's two errors are errors; its table of powers is that. -/
def gStr : Glob := ⟨gN, fun f => (∃ v : Value, (v = .nilIface ∨ ∃ t p, v = .iface t p) ∧ Cells f 1 #[v]) ∧ (∃ v : Value, (v = .nilIface ∨ ∃ t p, v = .iface t p) ∧ Cells f 2 #[v]) ∧ Cells f 0 (Lib.pow10Tab.map fun z => Value.int .u64 z).toArray⟩
section
variable {X : Nat → Prop} {w : World} {l : List UInt8}
theorem at_cell {g : Nat} {cs : Array Value} (hg : g < gN) (h : Cells (fun i => if i < gN then w.heap[i]? else none) g cs) (i : Nat) : w.cell? ⟨g, i, none⟩ = cs[i]? := by
  obtain ⟨t, fr, h⟩ := h
  simp only [hg, if_true] at h
  unfold World.cell?
  simp only [h]
  rfl
theorem tab_is (h : GlOk gStr X w) : Lib.TabIs Tryd.prog w "internal/strconv.uint64pow10" .u64 Lib.pow10Tab := by
  obtain ⟨_, _, _, _, t, fr, h⟩ := h
  have e : Tryd.prog.globalNamed "internal/strconv.uint64pow10" = some 0 := by kernel_rfl
  unfold Lib.TabIs World.var?
  rw [e]
  have h : w.heap[0]? = _ := h
  simp only [Option.bind_some, h]
/-- A number's digits, and no others. -/
abbrev digits (n : Int) : List UInt8 := Lib.itoa n
theorem digits_len (n : Int) (h : InR .i64 n) : (digits n).length ≤ 21 := Lib.itoa_length_le n h.1 h.2
theorem itoa_v {n : Int} : ACallsG Tryd.prog gStr 40 [.int .i64 n] (strT (digits n)) := fun N w vs hG hN hlen hv => by
  obtain ⟨vs⟩ := vs
  match vs, hlen with
  | [x0], _ =>
    obtain ⟨rfl, h0⟩ := fz_int (hv 0 _ x0 rfl rfl)
    have h1 : -9223372036854775808 ≤ n ∧ n ≤ 9223372036854775807 := h0
    refine (Tryd.strconv_Itoa n h1.1 h1.2 w (tab_is hG)).mono fun e w' ⟨h2, k, os, h3⟩ => ⟨_, h2, ?_, .str ?_⟩
    · rw [h3]; exact Lib.below_grow _ _ (Nat.le_refl _) _ _
    · rw [str_size]; have := digits_len n h0; simp only [SLIM]; omega
/-- Atoi: the number, and whether there is one. -/
def atoiF (l : List UInt8) : Int × Bool := match Lib.atoiAll l with
  | .ok v => (v, true)
  | .range => (Lib.atoiSat l, false)
  | _ => (0, false)
/-- An error, or none. -/
def errT : Bool → Abs.V
  | true => .nili
  | false => .ifc 97 (.fp [] 0)
theorem atoi_in {v : Int} (h : Lib.atoiAll l = .ok v) : InR .i64 v := by
  unfold Lib.atoiAll at h
  split at h
  · cases h
  · dsimp only at h
    split at h
    · cases h
    · cases h
    · split at h
      · cases h
      · split at h
        · cases h
        · cases h
          constructor <;> simp only [rng] <;> split <;> omega
theorem sat_in (l : List UInt8) : InR .i64 (Lib.atoiSat l) := by
  unfold Lib.atoiSat
  split <;> exact ⟨by decide, by decide⟩
theorem atoi_v (hl : l.length ≤ 281474976710656) : ACallsG Tryd.prog gStr 46 [strT l] (.tup [.int .i64 (atoiF l).1, errT (atoiF l).2]) := fun N w vs hG hN hlen hv => by
  obtain ⟨vs⟩ := vs
  match vs, hlen with
  | [x0], _ =>
    obtain ⟨rfl, h0⟩ := fz_str (hv 0 _ x0 rfl rfl)
    obtain ⟨g1, g2, ⟨v1, i1, k1⟩, ⟨v2, i2, k2⟩, _⟩ := hG
    have sz : (str l).size ≤ 281474976710656 := by rw [str_size]; exact hl
    have two : ∀ {w' : World} {a b : Abs.V} {x y : Value}, Fz N w' a x → Fz N w' b y → Fz N w' (.tup [a, b]) (.tuple #[x, y]) := fun ha hb => .tup rfl fun i x c hx hc => by
      have hi : i < 2 := (List.getElem?_eq_some_iff.1 hx).1
      have : i = 0 ∨ i = 1 := by omega
      rcases this with rfl | rfl <;> (cases hx; cases hc)
      · exact ha
      · exact hb
    have far : ∀ {w' : World} {M : Nat} {o : Obj}, w.heap.size ≤ M → w'.heap[M]? = some o → Fz N w' (errT false) (.iface 97 (.pointer (some ⟨M, 0, none⟩))) := fun {w' M o} h1 h2 =>
      .ifc (.fp (cs := []) (o := 0) (fun _ => undef) (fun hx => by have := hN M hx; omega) (block_lt h2) (fun u hu => by cases hu) (fun j u hu => by simp at hu) (fun j u hu => by simp at hu))
    unfold atoiF
    rcases he : Lib.atoiAll l with v | _ | _
    · refine (Tryd.strconv_Atoi_ok (str l) (by omega) v (by rw [str_toList]; exact he) w).mono fun e w' ⟨h2, h3⟩ => ⟨_, h2, ?_, two (.int (atoi_in he)) .nili⟩
      rcases h3 with rfl | ⟨t, rfl⟩
      · exact Below.refl _ _
      · exact Lib.bytesWorld_below _ _ _
    · exact (Tryd.strconv_Atoi_syntax (str l) sz (by rw [str_toList, he]; exact ⟨fun v h => (by cases h), fun h => (by cases h)⟩) v1 w (at_cell (by decide) k1 0) i1).mono fun e w' ⟨M, h2, h3, h4, h5⟩ => ⟨_, h2, h5, two (.int (inR_zero _)) (far h3 h4)⟩
    · refine (Tryd.strconv_Atoi_range (str l) sz (by rw [str_toList]; exact he) v2 w (at_cell (by decide) k2 0) i2).mono fun e w' ⟨M, h2, h3, h4, h5⟩ => ⟨_, h2, h5, two ?_ (far h3 h4)⟩
      rw [str_toList]
      exact .int (sat_in l)
/-! ### Out of a row's condition -/
theorem laid_at {P : Program} {W : World} {n : String} {d : DataW Unit} : ∀ {l : List (String × DataW Unit)} {ps : List MemPlace}, DataW.LaidVars P W l ps → (n, d) ∈ l →
    ∃ g t cs fuel p, P.globalNamed n = some g ∧ (P.globals[g]?).map (·.type) = some t ∧ W.var? P n = some cs ∧ DataW.trod (fun _ => ()) P W 0 (fun _ => true) false fuel t cs.toList = some (d, p)
  | (m, e) :: r, ps, h, hm => by
    obtain ⟨g, t, cs, fuel, p, q, h1, h2, h3, h4, h5, _⟩ := h
    rcases List.mem_cons.1 hm with e | hm
    · cases e; exact ⟨g, t, cs, fuel, p, h1, h2, h3, h4⟩
    · exact laid_at h5 hm
theorem var_heap {P : Program} {W : World} {n : String} {g : Nat} {cs : Array Value} (hg : P.globalNamed n = some g) (h : W.var? P n = some cs) : ∃ t fr, W.heap[g]? = some (.cells cs t fr) := by
  unfold World.var? at h
  rw [hg] at h
  simp only [Option.bind_some] at h
  split at h
  · rename_i cs' t fr hh
    cases h
    exact ⟨t, fr, hh⟩
  · cases h
theorem trod_held {P : Program} {W : World} {fuel t ms : _} {cs : List Value} {d : DataW Unit} {p : List MemPlace} (ht : P.underlying t = some (.interface ms)) (h : DataW.trod (fun _ => ()) P W 0 (fun _ => true) false fuel t cs = some (d, p)) : ∃ v, cs = [v] ∧ (v = .nilIface ∨ ∃ u x, v = .iface u x) := by
  cases fuel with
  | zero => simp [DataW.trod] at h
  | succ fuel =>
    unfold DataW.trod at h
    rw [ht] at h
    split at h <;> first
      | (rename_i e1 e2; cases e2; exact ⟨_, rfl, .inl rfl⟩)
      | exact ⟨_, rfl, .inl rfl⟩
      | exact ⟨_, rfl, .inr ⟨_, _, rfl⟩⟩
      | (rename_i e; cases e)
      | cases h
theorem glob_of {laid : List (String × DataW Unit)} {d1 d2 : DataW Unit} {w : World} (h : laidMet Tryd.prog laid w) (m1 : ("strconv.ErrSyntax", d1) ∈ laid) (m2 : ("strconv.ErrRange", d2) ∈ laid) (m3 : ("internal/strconv.uint64pow10", Lib.tabData .u64 Lib.pow10Tab) ∈ laid) : GlOk gStr (fun _ => False) w := by
  obtain ⟨ps, h, _⟩ := h
  have ht : ∀ n g t, Tryd.prog.globalNamed n = some g → (Tryd.prog.globals[g]?).map (·.type) = some t → ∀ g' t', Tryd.prog.globalNamed n = some g' → (Tryd.prog.globals[g']?).map (·.type) = some t' → g' = g ∧ t' = t := fun n g t h1 h2 g' t' h3 h4 => by
    rw [h1] at h3; cases h3
    rw [h2] at h4; cases h4
    exact ⟨rfl, rfl⟩
  obtain ⟨g, t, cs, fuel, p, a1, a2, a3, a4⟩ := laid_at h m1
  obtain ⟨rfl, rfl⟩ := ht _ 1 75 (by kernel_rfl) (by kernel_rfl) g t a1 a2
  obtain ⟨v1, e1, i1⟩ := trod_held Tryd.underlying75 a4
  obtain ⟨t1, fr1, b1⟩ := var_heap a1 a3
  obtain ⟨g', t', cs', fuel', p', c1, c2, c3, c4⟩ := laid_at h m2
  obtain ⟨rfl, rfl⟩ := ht _ 2 75 (by kernel_rfl) (by kernel_rfl) g' t' c1 c2
  obtain ⟨v2, e2, i2⟩ := trod_held Tryd.underlying75 c4
  obtain ⟨t2, fr2, b2⟩ := var_heap c1 c3
  obtain ⟨g3, t3, cs3, fuel3, p3, k1, k2, k3, k4⟩ := laid_at h m3
  obtain ⟨rfl, rfl⟩ := ht _ 0 104 (by kernel_rfl) (by kernel_rfl) g3 t3 k1 k2
  obtain ⟨tt, fr3, b3⟩ := var_heap k1 k3
  have e3 := Lib.cells_of_tab Tryd.underlying104 Tryd.underlying26 (by kernel_rfl) (by kernel_rfl) k4
  have e1 : cs = #[v1] := by apply Array.ext'; simpa using e1
  have e2 : cs' = #[v2] := by apply Array.ext'; simpa using e2
  have e3 : cs3 = (Lib.pow10Tab.map fun z => Value.int .u64 z).toArray := by apply Array.ext'; simpa using e3
  have hsz : ∀ g o, w.heap[g]? = some o → g < w.heap.size := fun g o h => (Array.getElem?_eq_some_iff.1 h).1
  have z1 := hsz _ _ b1
  have z2 := hsz _ _ b2
  have z3 := hsz _ _ b3
  refine ⟨by show gN ≤ _; unfold gN; omega, fun b hb => hb.elim, ⟨v1, i1, t1, fr1, ?_⟩, ⟨v2, i2, t2, fr2, ?_⟩, ⟨tt, fr3, ?_⟩⟩
  · rw [← e1]; exact (if_pos (show 1 < gN by decide)).trans b1
  · rw [← e2]; exact (if_pos (show 2 < gN by decide)).trans b2
  · rw [← e3]; exact (if_pos (show 0 < gN by decide)).trans b3
end
end Go.Proofs.YtdimidhacccdjaaDoor.Globs
