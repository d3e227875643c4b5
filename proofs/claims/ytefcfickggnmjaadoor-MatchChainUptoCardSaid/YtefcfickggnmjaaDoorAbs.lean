/- Go's data as plain trees, memory as named rows, and what it means that a machine's state bears them. Over any program. -/
import Derived.Test.YtefcfickggnmjaaDoorMem
import Derived.OrdersHeld
import Derived.KernelRfl
import Derived.Tactics
import Derived.Below
namespace Go.Proofs.YtefcfickggnmjaaDoor.Abs
open Go.RowKit Mem

/-- A value as a plain tree. fro: a slice of memory that nobody changes any more; fp: a pointer into such; own, loc: a slice of, a pointer into, a row of one's own, by its name. -/
inductive V where
  | int (k : IntKind) (n : Int)
  | bool (b : Bool)
  | str (s : ByteArray)
  | agg (vs : List V)
  | tup (vs : List V)
  | fro (xs : List V)
  | nils
  | fp (cs : List V) (off : Nat)
  | nilp
  | fn (f : Fn) (first caps : List V)
  | nilf
  | ifc (t : TypeId) (v : V)
  | nili
  | own (n i len : Nat)
  | loc (n i off : Nat)
  | mp (n : Nat)
  | nilm
  | und
  deriving Inhabited

def V.cells : V → List V
  | .agg vs => vs
  | v => [v]
/-- One cell takes it. -/
def V.one : V → Bool
  | .agg _ | .tup _ | .und => false
  | _ => true
mutual
def V.names : V → List Nat
  | .own n _ _ => [n]
  | .loc n _ _ => [n]
  | .mp n => [n]
  | .agg vs => namesL vs
  | .tup vs => namesL vs
  | .fn _ a b => namesL a ++ namesL b
  | .ifc _ v => v.names
  | _ => []
def V.namesL : List V → List Nat
  | [] => []
  | v :: r => v.names ++ namesL r
end
mutual
def V.ren (ρ : Nat → Nat) : V → V
  | .own n i l => .own (ρ n) i l
  | .loc n i o => .loc (ρ n) i o
  | .mp n => .mp (ρ n)
  | .agg vs => .agg (renL ρ vs)
  | .tup vs => .tup (renL ρ vs)
  | .fn f a b => .fn f (renL ρ a) (renL ρ b)
  | .ifc t v => .ifc t (v.ren ρ)
  | v => v
def V.renL (ρ : Nat → Nat) : List V → List V
  | [] => []
  | v :: r => v.ren ρ :: renL ρ r
end
theorem renL_map (ρ : Nat → Nat) : ∀ l : List V, V.renL ρ l = l.map (V.ren ρ)
  | [] => rfl
  | v :: r => by rw [V.renL, renL_map ρ r]; rfl
theorem mem_namesL {n : Nat} : ∀ {l : List V}, n ∈ V.namesL l ↔ ∃ v ∈ l, n ∈ v.names
  | [] => by simp [V.namesL]
  | v :: r => by simp [V.namesL, mem_namesL (l := r)]

abbrev LIM : Nat := 140737488355328
abbrev SLIM : Nat := 4611686018427387904

def rng : IntKind → Int × Int
  | .i8 => (-128, 127)
  | .i16 => (-32768, 32767)
  | .i32 => (-2147483648, 2147483647)
  | .i64 => (-9223372036854775808, 9223372036854775807)
  | .u8 => (0, 255)
  | .u16 => (0, 65535)
  | .u32 => (0, 4294967295)
  | .u64 => (0, 18446744073709551615)
def InR (k : IntKind) (n : Int) : Prop := (rng k).1 ≤ n ∧ n ≤ (rng k).2
theorem inR_wrap (k : IntKind) (n : Int) : InR k (k.wrap n) := by
  cases k <;> simp only [InR, rng, IntKind.wrap, IntKind.bits, IntKind.signed] <;> simp <;> (try split) <;> omega
theorem inR_of {k : IntKind} {n m : Int} (h : k.wrap n = m) : InR k m := h ▸ inR_wrap k n
theorem inR_zero (k : IntKind) : InR k 0 := by cases k <;> exact ⟨by decide, by decide⟩
/-- v is that tree, and all memory that it leads to is among the blocks that X does not name. -/
inductive Fz (X : Nat → Prop) (w : World) : V → Value → Prop
  | int {k n} : InR k n → Fz X w (.int k n) (.int k n)
  | bool {b} : Fz X w (.bool b) (.bool b)
  | str {s} : s.size ≤ SLIM → Fz X w (.str s) (.string s)
  | agg {vs cs} : vs.length = cs.size → (∀ v ∈ vs, v.one = true) → (∀ (i : Nat) x c, vs[i]? = some x → cs[i]? = some c → Fz X w x c) → Fz X w (.agg vs) (.agg cs)
  | tup {vs cs} : vs.length = cs.size → (∀ (i : Nat) x c, vs[i]? = some x → cs[i]? = some c → Fz X w x c) → Fz X w (.tup vs) (.tuple cs)
  | fro0 {A cap} : (A = none → cap = 0) → Fz X w (.fro []) (.slice A 0 cap)
  | fro {xs : List V} {b o sz cap : Nat} (c : Nat → Nat → Value) : ¬ X b → b < w.heap.size → 0 < sz → xs.length ≤ cap → xs.length ≤ LIM → (∀ x ∈ xs, x.cells.length = sz ∧ ∀ u ∈ x.cells, u.one = true) →
      (∀ (i j : Nat) x u, xs[i]? = some x → x.cells[j]? = some u → w.cell? ⟨b, o + i * sz + j, none⟩ = some (c i j)) → (∀ (i j : Nat) x u, xs[i]? = some x → x.cells[j]? = some u → Fz X w u (c i j)) → Fz X w (.fro xs) (.slice (some ⟨b, o, none⟩) xs.length cap)
  | nils : Fz X w .nils (.slice none 0 0)
  | fp {cs : List V} {b o off : Nat} (c : Nat → Value) : ¬ X b → b < w.heap.size → (∀ u ∈ cs, u.one = true) →
      (∀ (j : Nat) u, cs[j]? = some u → w.cell? ⟨b, o + j, none⟩ = some (c j)) → (∀ (j : Nat) u, cs[j]? = some u → Fz X w u (c j)) → Fz X w (.fp cs off) (.pointer (some ⟨b, o + off, none⟩))
  | nilp : Fz X w .nilp (.pointer none)
  | fn {f as bs cs ds} : as.length = cs.size → bs.length = ds.size → (∀ (i : Nat) x c, as[i]? = some x → cs[i]? = some c → Fz X w x c) → (∀ (i : Nat) x c, bs[i]? = some x → ds[i]? = some c → Fz X w x c) → Fz X w (.fn f as bs) (.func f cs ds)
  | nilf : Fz X w .nilf .nilFunc
  | ifc {t v x} : Fz X w v x → Fz X w (.ifc t v) (.iface t x)
  | nili : Fz X w .nili .nilIface
  | nilm : Fz X w .nilm (.map none)
  | und : Fz X w .und undef

/-- Where a name's row lies. -/
structure Pl where
  blk : Option Nat
  sz : Nat
  cap : Nat
/-- v is that tree; its names are among A's, and lie where φ says. -/
inductive Rep (X : Nat → Prop) (A : Nat → Prop) (φ : Nat → Pl) (w : World) : V → Value → Prop
  | fz {v x} : Fz X w v x → Rep X A φ w v x
  | agg {vs cs} : vs.length = cs.size → (∀ v ∈ vs, v.one = true) → (∀ (i : Nat) x c, vs[i]? = some x → cs[i]? = some c → Rep X A φ w x c) → Rep X A φ w (.agg vs) (.agg cs)
  | tup {vs cs} : vs.length = cs.size → (∀ (i : Nat) x c, vs[i]? = some x → cs[i]? = some c → Rep X A φ w x c) → Rep X A φ w (.tup vs) (.tuple cs)
  | fn {f as bs cs ds} : as.length = cs.size → bs.length = ds.size → (∀ (i : Nat) x c, as[i]? = some x → cs[i]? = some c → Rep X A φ w x c) → (∀ (i : Nat) x c, bs[i]? = some x → ds[i]? = some c → Rep X A φ w x c) → Rep X A φ w (.fn f as bs) (.func f cs ds)
  | ifc {t v x} : Rep X A φ w v x → Rep X A φ w (.ifc t v) (.iface t x)
  | own0 {n} : A n → (φ n).blk = none → Rep X A φ w (.own n 0 0) (.slice none 0 0)
  | own {n i len b} : A n → (φ n).blk = some b → i + len ≤ (φ n).cap → (φ n).cap ≤ maxLen → Rep X A φ w (.own n i len) (.slice (some ⟨b, i * (φ n).sz, none⟩) len ((φ n).cap - i))
  | loc {n i off b} : A n → (φ n).blk = some b → Rep X A φ w (.loc n i off) (.pointer (some ⟨b, i * (φ n).sz + off, none⟩))
  | mp {n b} : A n → (φ n).blk = some b → Rep X A φ w (.mp n) (.map (some b))

/-- What has not turned: all blocks that M does not name. -/
structure Stays (M : Nat → Prop) (w w' : World) : Prop where
  os : w'.os = w.os
  tape : w'.tape = w.tape
  output : w'.output = w.output
  size : w.heap.size ≤ w'.heap.size
  block : ∀ b, b < w.heap.size → ¬ M b → w'.heap[b]? = w.heap[b]?
theorem Stays.refl (M : Nat → Prop) (w : World) : Stays M w w := ⟨rfl, rfl, rfl, Nat.le_refl _, fun _ _ _ => rfl⟩
theorem Stays.drew (M : Nat → Prop) (w : World) : Stays M w w.drew := ⟨rfl, rfl, rfl, Nat.le_refl _, fun _ _ _ => rfl⟩
theorem Stays.of_below {M : Nat → Prop} {w w' : World} (h : Below w.heap.size w w') : Stays M w w' := ⟨h.os, h.tape, h.output, h.size, fun b hb _ => h.block b hb⟩
theorem Stays.below {w w' : World} (h : Stays (fun _ => False) w w') : Below w.heap.size w w' := ⟨h.os, h.tape, h.output, h.size, fun b hb => h.block b hb id⟩
theorem Stays.trans {M M' : Nat → Prop} {a b c : World} (h : Stays M a b) (k : Stays M' b c) (hM : ∀ x, x < a.heap.size → M' x → M x) : Stays M a c :=
  ⟨k.os.trans h.os, k.tape.trans h.tape, k.output.trans h.output, Nat.le_trans h.size k.size, fun x hx hm => (k.block x (Nat.lt_of_lt_of_le hx h.size) fun h' => hm (hM x hx h')).trans (h.block x hx hm)⟩
theorem Stays.cell {M : Nat → Prop} {w w' : World} (h : Stays M w w') {a : Addr} (hb : a.block < w.heap.size) (hm : ¬ M a.block) : w'.cell? a = w.cell? a := World.cell?_of_block (w := w) (h.block a.block hb hm)

section
variable {X X' A A' : Nat → Prop} {φ φ' : Nat → Pl} {w w' : World}
theorem Fz.mono (hX : ∀ b, b < w.heap.size → X' b → X b) (hs : Stays X w w') {v : V} {x : Value} (h : Fz X w v x) : Fz X' w' v x := by
  induction h with
  | int h => exact .int h
  | bool => exact .bool
  | str h => exact .str h
  | agg h1 h2 _ ih => exact .agg h1 h2 ih
  | tup h1 _ ih => exact .tup h1 ih
  | fro0 h1 => exact .fro0 h1
  | fro c h1 h2 h3 h4 h5 h6 h7 _ ih => exact .fro c (fun h => h1 (hX _ h2 h)) (Nat.lt_of_lt_of_le h2 hs.size) h3 h4 h5 h6 (fun i j x u hx hu => (hs.cell h2 h1).trans (h7 i j x u hx hu)) ih
  | nils => exact .nils
  | fp c h1 h2 h3 h4 _ ih => exact .fp c (fun h => h1 (hX _ h2 h)) (Nat.lt_of_lt_of_le h2 hs.size) h3 (fun j u hu => (hs.cell h2 h1).trans (h4 j u hu)) ih
  | nilp => exact .nilp
  | fn h1 h2 _ _ ih1 ih2 => exact .fn h1 h2 ih1 ih2
  | nilf => exact .nilf
  | ifc _ ih => exact .ifc ih
  | nili => exact .nili
  | nilm => exact .nilm
  | und => exact .und
theorem Rep.mono (hX : ∀ b, b < w.heap.size → X' b → X b) (hs : Stays X w w') (hA : ∀ n, A n → A' n) (hφ : ∀ n, A n → φ' n = φ n) {v : V} {x : Value} (h : Rep X A φ w v x) : Rep X' A' φ' w' v x := by
  induction h with
  | fz h => exact .fz (h.mono hX hs)
  | agg h1 h2 _ ih => exact .agg h1 h2 ih
  | tup h1 _ ih => exact .tup h1 ih
  | fn h1 h2 _ _ ih1 ih2 => exact .fn h1 h2 ih1 ih2
  | ifc _ ih => exact .ifc ih
  | own0 h1 h2 => exact .own0 (hA _ h1) (by rw [hφ _ h1]; exact h2)
  | own h1 h2 h3 h4 => rw [← hφ _ h1] at h2 h3 h4 ⊢; exact .own (hA _ h1) h2 h3 h4
  | loc h1 h2 => rw [← hφ _ h1] at h2 ⊢; exact .loc (hA _ h1) h2
  | mp h1 h2 => rw [← hφ _ h1] at h2; exact .mp (hA _ h1) h2
/-- Other names for the same. -/
theorem Rep.ren {ρ : Nat → Nat} : ∀ {v : V} {x : Value}, (∀ n ∈ v.names, A' n ∧ φ' n = φ (ρ n)) → Rep X A φ w (v.ren ρ) x → Rep X A' φ' w v x := by
  suffices H : ∀ {u : V} {x : Value}, Rep X A φ w u x → ∀ v, u = V.ren ρ v → (∀ n ∈ v.names, A' n ∧ φ' n = φ (ρ n)) → Rep X A' φ' w v x from fun {v x} hn h => H h v rfl hn
  intro u x h
  induction h with
  | @fz u x h =>
    induction h with
    | agg h1 h2 h3 ih =>
      intro v hv hn
      cases v <;> simp only [V.ren] at hv <;> try (cases hv)
      rename_i vs
      rw [renL_map] at h1 h2 ih
      refine .agg (by simpa using h1) (fun v hv => ?_) (fun i y c hy hc => ih i (V.ren ρ y) c (by simp [hy]) hc y rfl fun n hn' => hn n (by rw [V.names, mem_namesL]; exact ⟨y, List.mem_of_getElem? hy, hn'⟩))
      have := h2 (V.ren ρ v) (List.mem_map.2 ⟨v, hv, rfl⟩)
      cases v <;> first | rfl | (simp [V.ren, V.one] at this)
    | tup h1 h3 ih =>
      intro v hv hn
      cases v <;> simp only [V.ren] at hv <;> try (cases hv)
      rename_i vs
      rw [renL_map] at h1 ih
      exact .tup (by simpa using h1) (fun i y c hy hc => ih i (V.ren ρ y) c (by simp [hy]) hc y rfl fun n hn' => hn n (by rw [V.names, mem_namesL]; exact ⟨y, List.mem_of_getElem? hy, hn'⟩))
    | fn h1 h2 h3 h4 ih1 ih2 =>
      intro v hv hn
      cases v <;> simp only [V.ren] at hv <;> try (cases hv)
      rename_i f as bs
      rw [renL_map] at h1 h2 ih1 ih2
      exact .fn (by simpa using h1) (by simpa using h2) (fun i y c hy hc => ih1 i (V.ren ρ y) c (by simp [hy]) hc y rfl fun n hn' => hn n (by rw [V.names, List.mem_append, mem_namesL, mem_namesL]; exact .inl ⟨y, List.mem_of_getElem? hy, hn'⟩))
        (fun i y c hy hc => ih2 i (V.ren ρ y) c (by simp [hy]) hc y rfl fun n hn' => hn n (by rw [V.names, List.mem_append, mem_namesL, mem_namesL]; exact .inr ⟨y, List.mem_of_getElem? hy, hn'⟩))
    | ifc h1 ih =>
      intro v hv hn
      cases v <;> simp only [V.ren] at hv <;> try (cases hv)
      exact .ifc (ih _ rfl fun n hn' => hn n (by rw [V.names]; exact hn'))
    | int h => intro v hv _; cases v <;> simp only [V.ren] at hv <;> cases hv; exact .fz (.int h)
    | bool => intro v hv _; cases v <;> simp only [V.ren] at hv <;> cases hv; exact .fz .bool
    | str h => intro v hv _; cases v <;> simp only [V.ren] at hv <;> cases hv; exact .fz (.str h)
    | fro0 h1 => intro v hv _; cases v <;> simp only [V.ren] at hv <;> cases hv; exact .fz (.fro0 h1)
    | fro c h1 h2 h3 h4 h5 h6 h7 h8 => intro v hv _; cases v <;> simp only [V.ren] at hv <;> cases hv; exact .fz (.fro c h1 h2 h3 h4 h5 h6 h7 h8)
    | nils => intro v hv _; cases v <;> simp only [V.ren] at hv <;> cases hv; exact .fz .nils
    | fp c h1 h2 h3 h4 h5 => intro v hv _; cases v <;> simp only [V.ren] at hv <;> cases hv; exact .fz (.fp c h1 h2 h3 h4 h5)
    | nilp => intro v hv _; cases v <;> simp only [V.ren] at hv <;> cases hv; exact .fz .nilp
    | nilf => intro v hv _; cases v <;> simp only [V.ren] at hv <;> cases hv; exact .fz .nilf
    | nili => intro v hv _; cases v <;> simp only [V.ren] at hv <;> cases hv; exact .fz .nili
    | nilm => intro v hv _; cases v <;> simp only [V.ren] at hv <;> cases hv; exact .fz .nilm
    | und => intro v hv _; cases v <;> simp only [V.ren] at hv <;> cases hv; exact .fz .und
  | agg h1 h2 h3 ih =>
    intro v hv hn
    cases v <;> simp only [V.ren] at hv <;> try (cases hv)
    rename_i vs
    rw [renL_map] at h1 h2 ih
    refine .agg (by simpa using h1) (fun v hv => ?_) (fun i y c hy hc => ih i (V.ren ρ y) c (by simp [hy]) hc y rfl fun n hn' => hn n (by rw [V.names, mem_namesL]; exact ⟨y, List.mem_of_getElem? hy, hn'⟩))
    have := h2 (V.ren ρ v) (List.mem_map.2 ⟨v, hv, rfl⟩)
    cases v <;> first | rfl | (simp [V.ren, V.one] at this)
  | tup h1 h3 ih =>
    intro v hv hn
    cases v <;> simp only [V.ren] at hv <;> try (cases hv)
    rename_i vs
    rw [renL_map] at h1 ih
    exact .tup (by simpa using h1) (fun i y c hy hc => ih i (V.ren ρ y) c (by simp [hy]) hc y rfl fun n hn' => hn n (by rw [V.names, mem_namesL]; exact ⟨y, List.mem_of_getElem? hy, hn'⟩))
  | fn h1 h2 h3 h4 ih1 ih2 =>
    intro v hv hn
    cases v <;> simp only [V.ren] at hv <;> try (cases hv)
    rename_i f as bs
    rw [renL_map] at h1 h2 ih1 ih2
    exact .fn (by simpa using h1) (by simpa using h2) (fun i y c hy hc => ih1 i (V.ren ρ y) c (by simp [hy]) hc y rfl fun n hn' => hn n (by rw [V.names, List.mem_append, mem_namesL, mem_namesL]; exact .inl ⟨y, List.mem_of_getElem? hy, hn'⟩))
      (fun i y c hy hc => ih2 i (V.ren ρ y) c (by simp [hy]) hc y rfl fun n hn' => hn n (by rw [V.names, List.mem_append, mem_namesL, mem_namesL]; exact .inr ⟨y, List.mem_of_getElem? hy, hn'⟩))
  | ifc h1 ih =>
    intro v hv hn
    cases v <;> simp only [V.ren] at hv <;> try (cases hv)
    exact .ifc (ih _ rfl fun n hn' => hn n (by rw [V.names]; exact hn'))
  | own0 h1 h2 =>
    intro v hv hn
    cases v <;> simp only [V.ren] at hv <;> try (cases hv)
    rename_i n
    obtain ⟨h3, h4⟩ := hn n (by simp [V.names])
    exact .own0 h3 (by rw [h4]; exact h2)
  | own h1 h2 h4 h7 =>
    intro v hv hn
    cases v with
    | own n i len =>
      simp only [V.ren] at hv
      cases hv
      obtain ⟨h5, h6⟩ := hn n (by simp [V.names])
      rw [← h6] at h2 h4 h7 ⊢
      exact .own h5 h2 h4 h7
    | _ => simp [V.ren] at hv
  | loc h1 h2 =>
    intro v hv hn
    cases v with
    | loc n i off =>
      simp only [V.ren] at hv
      cases hv
      obtain ⟨h5, h6⟩ := hn n (by simp [V.names])
      rw [← h6] at h2 ⊢
      exact .loc h5 h2
    | _ => simp [V.ren] at hv
  | mp h1 h2 =>
    intro v hv hn
    cases v <;> simp only [V.ren] at hv <;> try (cases hv)
    rename_i n
    obtain ⟨h5, h6⟩ := hn n (by simp [V.names])
    rw [← h6] at h2
    exact .mp h5 h2
theorem Rep.one {v : V} {x : Value} (h : Rep X A φ w v x) (h1 : v.one = true) : x.oneCell' = true := by
  cases h with
  | fz h => cases h <;> first | rfl | (simp [V.one] at h1)
  | _ => first | rfl | (simp [V.one] at h1)
end
end Go.Proofs.YtefcfickggnmjaaDoor.Abs
