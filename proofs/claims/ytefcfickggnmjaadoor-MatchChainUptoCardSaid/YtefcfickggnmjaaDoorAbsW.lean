/- A machine's state as named trees; the law of a walk, and its rules for control. Over any program. -/
import Derived.Test.YtefcfickggnmjaaDoorAbs
import Derived.LoopN
namespace Go.Proofs.YtefcfickggnmjaaDoor.Abs
open Go.RowKit Mem

inductive Blk where
  | els (T : TypeId) (sz : Nat) (xs : List V)
  | map (es : List (V × V))
  | sit (s : ByteArray) (pos : Nat)

def lk {β : Type} : List (Nat × β) → Nat → Option β
  | [], _ => none
  | (k, v) :: r, n => bif Nat.beq k n then some v else lk r n
structure S where
  tm : List (Nat × V)
  st : List (Nat × Option Blk)
  nx : Nat
  nt : Nat
def S.blk (s : S) (n : Nat) : Option Blk := match lk s.st n with
  | some x => x
  | none => none
def constV : Value → Option V
  | .int k n => bif decide ((rng k).1 ≤ n) && decide (n ≤ (rng k).2) then some (.int k n) else none
  | .bool b => some (.bool b)
  | .string s => bif Nat.ble s.size 65536 then some (.str s) else none
  | .pointer none => some .nilp
  | .slice none 0 0 => some .nils
  | .nilFunc => some .nilf
  | .nilIface => some .nili
  | .map none => some .nilm
  | _ => none
def S.ev (s : S) : Operand → Option V
  | .tmp t => lk s.tm t
  | .const v => constV v
  | .func f => some (.fn (.func f) [] [])
  | .global _ => none

/-- What a named row is. -/
def BlkAt (X M A : Nat → Prop) (φ : Nat → Pl) (w : World) (pl : Pl) : Blk → Prop
  | .els T sz xs => pl.sz = sz ∧ 0 < sz ∧ xs.length ≤ LIM ∧ (∀ x ∈ xs, x.cells.length = sz ∧ ∀ u ∈ x.cells, u.one = true) ∧
      ((pl.blk = none ∧ xs = [] ∧ pl.cap = 0) ∨ ∃ b cur, pl.blk = some b ∧ M b ∧ w.heap[b]? = some (.cells cur T (0, 0)) ∧ cur.size = pl.cap * sz ∧ xs.length ≤ pl.cap ∧ pl.cap ≤ maxLen ∧
        ∀ (i j : Nat) x u, xs[i]? = some x → x.cells[j]? = some u → ∃ c, cur[i * sz + j]? = some c ∧ Rep X A φ w u c)
  | .map es => ∃ b ents clock, pl.blk = some b ∧ M b ∧ w.heap[b]? = some (.map ents clock) ∧ ents.size = es.length ∧
      ∀ (i : Nat) k v e, es[i]? = some (k, v) → ents[i]? = some e → Fz X w k e.key ∧ Rep X A φ w v e.val
  | .sit s pos => s.size ≤ SLIM ∧ ∃ b, pl.blk = some b ∧ M b ∧ w.heap[b]? = some (.stringIter s pos)

/-- What is known of the first n blocks, the package's variables: a walk does not change them. -/
structure Glob where
  n : Nat
  P : (Nat → Option Obj) → Prop
def GlOk (g : Glob) (X : Nat → Prop) (w : World) : Prop := g.n ≤ w.heap.size ∧ (∀ b, X b → g.n ≤ b) ∧ g.P (fun i => if i < g.n then w.heap[i]? else none)
theorem GlOk.sub {g : Glob} {X X' : Nat → Prop} {w : World} (h : GlOk g X w) (hX : ∀ b, X' b → X b) : GlOk g X' w := ⟨h.1, fun b hb => h.2.1 b (hX b hb), h.2.2⟩
theorem GlOk.stays {g : Glob} {X X' : Nat → Prop} {w w' : World} (h : GlOk g X w) (hs : Stays X w w') (hX : ∀ b, b < w.heap.size → X' b → X b) : GlOk g X' w' := by
  refine ⟨Nat.le_trans h.1 hs.size, fun b hb => ?_, ?_⟩
  · by_cases hl : b < w.heap.size
    · exact h.2.1 b (hX b hl hb)
    · have := h.1; omega
  · have e : (fun i => if i < g.n then w'.heap[i]? else none) = fun i => if i < g.n then w.heap[i]? else none := by
      funext i
      by_cases hi : i < g.n
      · rw [if_pos hi, if_pos hi]
        exact hs.block i (Nat.lt_of_lt_of_le hi h.1) fun hx => by have := h.2.1 i hx; omega
      · rw [if_neg hi, if_neg hi]
    rw [e]; exact h.2.2
/-- What is not the walk's own: blocks that others may change; and the first K names, which lie where pl says, the walk long. -/
structure Bg where
  bl : Nat → Prop
  g : Glob
structure Env where
  b : Bg
  K : Nat
  pl : Nat → Pl
abbrev Env.bl (N : Env) : Nat → Prop := N.b.bl
abbrev Env.g (N : Env) : Glob := N.b.g
instance : CoeFun Env (fun _ => Nat → Prop) := ⟨Env.bl⟩
instance : Coe Env (Nat → Prop) := ⟨Env.bl⟩
/-- The state bears it. -/
structure Rel (N : Env) (M A : Nat → Prop) (φ : Nat → Pl) (s : S) (a : Act) (w : World) : Prop where
  tm : ∀ t v, lk s.tm t = some v → t < s.nt ∧ Rep (fun b => M b ∨ N b) A φ w v (a.tmps.getD t undef)
  nt : a.tmps.size = s.nt
  st : ∀ n k, s.blk n = some k → A n ∧ BlkAt (fun b => M b ∨ N b) M A φ w (φ n) k
  inj : ∀ n n' k k' b, s.blk n = some k → s.blk n' = some k' → (φ n).blk = some b → (φ n').blk = some b → n = n'
  lim : ∀ b, M b ∨ N b → b < w.heap.size
  dis : ∀ b, M b → ¬ N b
  df : a.defers = []
  pin : ∀ n, n < N.K → A n ∧ φ n = N.pl n
  gl : GlOk N.g (fun b => M b ∨ N b) w

section
variable {N : Env} {M M' A A' : Nat → Prop} {φ φ' : Nat → Pl} {s s' : S} {a a' : Act} {w w' : World}
theorem Rel.lt_blk (h : Rel N M A φ s a w) {n : Nat} {k : Blk} (hk : s.blk n = some k) {b : Nat} (hb : (φ n).blk = some b) : M b := by
  have := (h.st n k hk).2
  cases k with
  | els T sz xs =>
    obtain ⟨_, _, _, _, h1 | ⟨b', cur, h1, h2, _⟩⟩ := this
    · rw [hb] at h1; cases h1.1
    · rw [hb] at h1; cases h1; exact h2
  | map es => obtain ⟨b', _, _, h1, h2, _⟩ := this; rw [hb] at h1; cases h1; exact h2
  | sit s pos => obtain ⟨_, b', h1, h2, _⟩ := this; rw [hb] at h1; cases h1; exact h2
/-- Memory grew, what is named stayed. -/
theorem BlkAt.mono {X X' : Nat → Prop} {pl : Pl} {k : Blk} (hX : ∀ b, b < w.heap.size → X' b → X b) (hs : Stays X w w') (hA : ∀ n, A n → A' n) (hφ : ∀ n, A n → φ' n = φ n) (hM : ∀ b, M b → M' b) (hb : ∀ b, pl.blk = some b → w'.heap[b]? = w.heap[b]?)
    (h : BlkAt X M A φ w pl k) : BlkAt X' M' A' φ' w' pl k := by
  cases k with
  | els T sz xs =>
    obtain ⟨h1, h2, h3, h4, h5⟩ := h
    refine ⟨h1, h2, h3, h4, h5.imp id ?_⟩
    rintro ⟨b, cur, g1, g2, g3, g4, g5, g6, g7⟩
    refine ⟨b, cur, g1, hM b g2, (hb b g1).trans g3, g4, g5, g6, fun i j x u hx hu => ?_⟩
    obtain ⟨c, hc, hr⟩ := g7 i j x u hx hu
    exact ⟨c, hc, hr.mono hX hs hA hφ⟩
  | map es =>
    obtain ⟨b, ents, clock, g1, g2, g3, g4, g5⟩ := h
    exact ⟨b, ents, clock, g1, hM b g2, (hb b g1).trans g3, g4, fun i k v e hk he => ⟨(g5 i k v e hk he).1.mono hX hs, (g5 i k v e hk he).2.mono hX hs hA hφ⟩⟩
  | sit s pos => obtain ⟨h0, b, g1, g2, g3⟩ := h; exact ⟨h0, b, g1, hM b g2, (hb b g1).trans g3⟩
/-- All old blocks are as they were. -/
theorem Rel.grow (h : Rel N M A φ s a w) (hb : Below w.heap.size w w') : Rel N M A φ s a w' where
  tm t v ht := ⟨(h.tm t v ht).1, (h.tm t v ht).2.mono (fun _ _ h => h) (.of_below hb) (fun _ h => h) (fun _ _ => rfl)⟩
  nt := h.nt
  st n k hk := ⟨(h.st n k hk).1, (h.st n k hk).2.mono (fun _ _ h => h) (.of_below hb) (fun _ h => h) (fun _ _ => rfl) (fun _ h => h) fun b e => hb.block b (h.lim b (.inl (h.lt_blk hk e)))⟩
  inj := h.inj
  lim b hb' := Nat.lt_of_lt_of_le (h.lim b hb') hb.size
  dis := h.dis
  df := h.df
  pin := h.pin
  gl := h.gl.stays (.of_below hb) fun _ _ h => h
theorem lk_put {β : Type} (l : List (Nat × β)) (d : Nat) (v : β) (t : Nat) : lk ((d, v) :: l) t = if d = t then some v else lk l t := by
  rw [lk]
  by_cases e : d = t
  · subst e; simp
  · have : Nat.beq d t = false := by
      cases hb : Nat.beq d t with
      | false => rfl
      | true => exact absurd (Nat.eq_of_beq_eq_true hb) e
    simp [this, e]
theorem rep_int {X A : Nat → Prop} {φ : Nat → Pl} {k : IntKind} {n : Int} {x : Value} (h : Rep X A φ w (.int k n) x) : x = .int k n := by cases h with | fz h => cases h; rfl
theorem rep_bool {X A : Nat → Prop} {φ : Nat → Pl} {b : Bool} {x : Value} (h : Rep X A φ w (.bool b) x) : x = .bool b := by cases h with | fz h => cases h; rfl
theorem rep_str {X A : Nat → Prop} {φ : Nat → Pl} {s : ByteArray} {x : Value} (h : Rep X A φ w (.str s) x) : x = .string s ∧ s.size ≤ SLIM := by cases h with | fz h => cases h; exact ⟨rfl, by assumption⟩
theorem rep_und {X A : Nat → Prop} {φ : Nat → Pl} {x : Value} (h : Rep X A φ w .und x) : x = undef := by cases h with | fz h => cases h; rfl
theorem rep_const {X A : Nat → Prop} {φ : Nat → Pl} {c : Value} {v : V} (h : constV c = some v) : Rep X A φ w v c := by
  unfold constV at h
  split at h <;> first | cases h | skip
  · rename_i k n
    cases hb : decide ((rng k).1 ≤ n) && decide (n ≤ (rng k).2) with
    | false => rw [hb] at h; cases h
    | true =>
      rw [hb] at h; cases h
      rw [Bool.and_eq_true, decide_eq_true_eq, decide_eq_true_eq] at hb
      exact .fz (.int hb)
  · exact .fz .bool
  · rename_i s
    cases hb : Nat.ble s.size 65536 with
    | false => rw [hb] at h; cases h
    | true =>
      rw [hb] at h; cases h
      have : s.size ≤ 65536 := Nat.le_of_ble_eq_true hb
      exact .fz (.str (Nat.le_trans this (by decide)))
  · exact .fz .nilp
  · exact .fz .nils
  · exact .fz .nilf
  · exact .fz .nili
  · exact .fz .nilm
theorem Rel.ev (h : Rel N M A φ s a w) {x : Operand} {v : V} (hx : s.ev x = some v) : Rep (fun b => M b ∨ N b) A φ w v (a.eval x) := by
  cases x with
  | tmp t => exact (h.tm t v hx).2
  | const c => exact rep_const hx
  | func f => cases hx; exact .fz (.fn rfl rfl (fun i x c h => by simp at h) (fun i x c h => by simp at h))
  | global g => cases hx
theorem Rel.int (h : Rel N M A φ s a w) {x : Operand} {k : IntKind} {n : Int} (hx : s.ev x = some (.int k n)) : a.eval x = .int k n := rep_int (h.ev hx)
theorem Rel.bool (h : Rel N M A φ s a w) {x : Operand} {b : Bool} (hx : s.ev x = some (.bool b)) : a.eval x = .bool b := rep_bool (h.ev hx)
theorem Rel.str (h : Rel N M A φ s a w) {x : Operand} {b : ByteArray} (hx : s.ev x = some (.str b)) : a.eval x = .string b ∧ b.size ≤ SLIM := rep_str (h.ev hx)
end

/-- What stands behind a piece of code. -/
def Post (N : Env) (Q : Exit → S → Prop) (M : Nat → Prop) (w : World) (e : Exit) (a' : Act) (w' : World) : Prop :=
  ∃ M' φ' s', Stays M w w' ∧ (∀ b, b < w.heap.size → M' b → M b) ∧ Rel N M' (· < s'.nx) φ' s' a' w' ∧ Q e s'
/-- THE WALK: from every machine's state that bears s the code comes to one that bears what Q says. -/
def AWp (P : Program) (N : Env) (c : Code) (Q : Exit → S → Prop) (s : S) : Prop :=
  ∀ M φ a w, Rel N M (· < s.nx) φ s a w → c.wp P (Post N Q M w) a w
def AThen (K : S → Prop) (Q : Exit → S → Prop) : Exit → S → Prop
  | .normal, s => K s
  | e, s => Q e s
def ABlock (id : Nat) (Q : Exit → S → Prop) : Exit → S → Prop
  | .exit id', s => if id' = id then Q .normal s else Q (.exit id') s
  | e, s => Q e s

theorem rounds_mono {P : Program} {c : Code} {Q Q' : Exit → Act → World → Prop} (hq : ∀ e a w, Q e a w → Q' e a w) : ∀ n a w, Code.rounds P c Q n a w → Code.rounds P c Q' n a w
  | 0, _, _, h => h.elim
  | n + 1, a, w, h => by
    rw [rounds_succ] at h ⊢
    refine Code.wp_mono (fun e a w q => ?_) h
    cases e with
    | normal => exact rounds_mono hq n a w q
    | _ => exact hq _ _ _ q
section
variable {P : Program} {N : Env} {Q Q' : Exit → S → Prop} {s : S} {c x y : Code}
theorem AWp.mono (h : AWp P N c Q s) (hq : ∀ e s, Q e s → Q' e s) : AWp P N c Q' s := fun M φ a w hr =>
  wp_mono (h M φ a w hr) fun _ _ _ ⟨M', φ', s', h1, h2, h3, h4⟩ => ⟨M', φ', s', h1, h2, h3, hq _ _ h4⟩
theorem awp_skip (h : Q .normal s) : AWp P N .skip Q s := fun M φ _ w hr => wp_skip ⟨M, φ, s, .refl _ w, fun _ _ h => h, hr, h⟩
theorem awp_exit {id : Nat} (h : Q (.exit id) s) : AWp P N (.exit id) Q s := fun M φ _ w hr => wp_exit ⟨M, φ, s, .refl _ w, fun _ _ h => h, hr, h⟩
theorem awp_ret (h : Q .ret s) : AWp P N .ret Q s := fun M φ _ w hr => wp_ret ⟨M, φ, s, .refl _ w, fun _ _ h => h, hr, h⟩
theorem awp_label {l : Nat} (h : Q .normal s) : AWp P N (.label l) Q s := fun M φ _ w hr => wp_label ⟨M, φ, s, .refl _ w, fun _ _ h => h, hr, h⟩
theorem Post.after {M M' : Nat → Prop} {w w' : World} {e : Exit} {a2 : Act} {w2 : World} (hs : Stays M w w') (hM : ∀ b, b < w.heap.size → M' b → M b) (h : Post N Q M' w' e a2 w2) : Post N Q M w e a2 w2 := by
  obtain ⟨M2, φ2, s2, h1, h2, h3, h4⟩ := h
  exact ⟨M2, φ2, s2, hs.trans h1 hM, fun b hb h => hM b hb (h2 b (Nat.lt_of_lt_of_le hb hs.size) h), h3, h4⟩
theorem awp_seq (h : AWp P N x (AThen (AWp P N y Q) Q) s) : AWp P N (.seq x y) Q s := fun M φ a w hr => by
  refine wp_seq (wp_mono (h M φ a w hr) fun e a' w' ⟨M', φ', s', h1, h2, h3, h4⟩ => ?_)
  cases e with
  | normal => exact wp_mono (h4 M' φ' a' w' h3) fun e a2 w2 => Post.after h1 h2
  | _ => exact ⟨M', φ', s', h1, h2, h3, h4⟩
theorem awp_cond {o : Operand} {b : Bool} (hc : s.ev o = some (.bool b)) (h : AWp P N (bif b then x else y) Q s) : AWp P N (.cond o x y) Q s := fun M φ a w hr => by
  refine wp_cond (t := b) (hr.bool hc) ?_
  cases b <;> exact h M φ a w hr
theorem awp_true {o : Operand} (hc : s.ev o = some (.bool true)) (h : AWp P N x Q s) : AWp P N (.cond o x y) Q s := awp_cond hc h
theorem awp_false {o : Operand} (hc : s.ev o = some (.bool false)) (h : AWp P N y Q s) : AWp P N (.cond o x y) Q s := awp_cond hc h
theorem awp_block {id : Nat} (h : AWp P N c (ABlock id Q) s) : AWp P N (.block id c) Q s := fun M φ a w hr => by
  refine wp_block (wp_mono (h M φ a w hr) fun e a' w' ⟨M', φ', s', h1, h2, h3, h4⟩ => ?_)
  cases e with
  | exit id' =>
    unfold Exit.inBlock
    by_cases e : id' = id
    · simp only [e, if_true]; simp only [ABlock, e, if_true] at h4; exact ⟨M', φ', s', h1, h2, h3, h4⟩
    · simp only [e, if_false]; simp only [ABlock, e, if_false] at h4; exact ⟨M', φ', s', h1, h2, h3, h4⟩
  | _ => exact ⟨M', φ', s', h1, h2, h3, h4⟩

/-- The state may be told by less, and under other names. -/
def TmsOk (ρ : Nat → Nat) (s : S) (nx nt : Nat) : List (Nat × V) → Prop
  | [] => True
  | p :: r => (lk s.tm p.1 = some (p.2.ren ρ) ∧ (p.2.names.all fun n => Nat.blt n nx) = true) ∧ TmsOk ρ s nx nt r
def StOk (ρ : Nat → Nat) (s : S) (nx : Nat) : List (Nat × Option Blk) → Prop
  | [] => True
  | (n, none) :: r => StOk ρ s nx r ∧ n = n
  | (n, some (.els T sz xs)) :: r => (((s.blk (ρ n) = some (.els T sz xs) ∧ ∀ x ∈ xs, x.names = []) ∨ (s.blk (ρ n) = some (.els T sz (V.renL ρ xs)) ∧ ((V.namesL xs).all fun n => Nat.blt n nx) = true)) ∧ Nat.blt n nx = true) ∧ StOk ρ s nx r
  | (n, some k) :: r => (s.blk (ρ n) = some k ∧ Nat.blt n nx = true ∧ (match k with | .map es => ∀ p ∈ es, p.2.names = [] | _ => True)) ∧ StOk ρ s nx r
def keysOk (ρ : Nat → Nat) : List (Nat × Option Blk) → Bool
  | [] => true
  | p :: r => (r.all fun q => !Nat.beq p.1 q.1 && !Nat.beq (ρ p.1) (ρ q.1)) && keysOk ρ r
structure Le (ρ : Nat → Nat) (s1 s : S) : Prop where
  nt : s1.nt = s.nt
  tm : TmsOk ρ s s1.nx s1.nt s1.tm
  st : StOk ρ s s1.nx s1.st
  ks : keysOk ρ s1.st = true
mutual
theorem ren_id {ρ : Nat → Nat} : ∀ v : V, v.names = [] → v.ren ρ = v
  | .agg vs, h => by rw [V.names] at h; rw [V.ren, renL_id vs h]
  | .tup vs, h => by rw [V.names] at h; rw [V.ren, renL_id vs h]
  | .fn f a b, h => by rw [V.names, List.append_eq_nil_iff] at h; rw [V.ren, renL_id a h.1, renL_id b h.2]
  | .ifc t v, h => by rw [V.names] at h; rw [V.ren, ren_id v h]
  | .own _ _ _, h => by simp [V.names] at h
  | .loc _ _ _, h => by simp [V.names] at h
  | .mp _, h => by simp [V.names] at h
  | .int _ _, _ | .bool _, _ | .str _, _ | .fro _, _ | .nils, _ | .fp _ _, _ | .nilp, _ | .nilf, _ | .nili, _ | .nilm, _ | .und, _ => rfl
theorem renL_id {ρ : Nat → Nat} : ∀ l : List V, V.namesL l = [] → V.renL ρ l = l
  | [], _ => rfl
  | v :: r, h => by rw [V.namesL, List.append_eq_nil_iff] at h; rw [V.renL, ren_id v h.1, renL_id r h.2]
end
theorem lk_mem {β : Type} : ∀ {l : List (Nat × β)} {n : Nat} {v : β}, lk l n = some v → (n, v) ∈ l
  | p :: r, n, v, h => by
    obtain ⟨k, u⟩ := p
    rw [lk_put] at h
    split at h
    · rename_i e; subst e; cases h; simp
    · exact List.mem_cons_of_mem _ (lk_mem h)
theorem tms_mem {ρ : Nat → Nat} {s : S} {nx nt : Nat} : ∀ {l : List (Nat × V)}, TmsOk ρ s nx nt l → ∀ p ∈ l, lk s.tm p.1 = some (p.2.ren ρ) ∧ ∀ n ∈ p.2.names, n < nx
  | q :: r, h, p, hp => by
    rcases List.mem_cons.1 hp with rfl | hp
    · exact ⟨h.1.1, fun n hn => by simpa using List.all_eq_true.1 h.1.2 n hn⟩
    · exact tms_mem h.2 p hp
theorem sts_mem {ρ : Nat → Nat} {s : S} {nx : Nat} : ∀ {l : List (Nat × Option Blk)}, StOk ρ s nx l → ∀ n k, (n, some k) ∈ l → n < nx ∧ match k with
    | .els T sz xs => s.blk (ρ n) = some (.els T sz (V.renL ρ xs)) ∧ ∀ m ∈ V.namesL xs, m < nx
    | .map es => s.blk (ρ n) = some (.map es) ∧ ∀ p ∈ es, p.2.names = []
    | .sit t pos => s.blk (ρ n) = some (.sit t pos)
  | (m, none) :: r, h, n, k, hm => by
    rcases List.mem_cons.1 hm with e | hm
    · cases e
    · exact sts_mem h.1 n k hm
  | (m, some (.els T sz xs)) :: r, h, n, k, hm => by
    rcases List.mem_cons.1 hm with e | hm
    · cases e
      refine ⟨by simpa using h.1.2, ?_⟩
      rcases h.1.1 with ⟨h1, h2⟩ | ⟨h1, h2⟩
      · have hn : V.namesL xs = [] := List.eq_nil_iff_forall_not_mem.2 fun m hm => by
          obtain ⟨v, hv, hm⟩ := mem_namesL.1 hm
          rw [h2 v hv] at hm; cases hm
        exact ⟨by rw [renL_id _ hn]; exact h1, fun m hm => by rw [hn] at hm; cases hm⟩
      · exact ⟨h1, fun m hm => by simpa using List.all_eq_true.1 h2 m hm⟩
    · exact sts_mem h.2 n k hm
  | (m, some (.map es)) :: r, h, n, k, hm => by
    rcases List.mem_cons.1 hm with e | hm
    · cases e; exact ⟨by simpa using h.1.2.1, h.1.1, h.1.2.2⟩
    · exact sts_mem h.2 n k hm
  | (m, some (.sit t pos)) :: r, h, n, k, hm => by
    rcases List.mem_cons.1 hm with e | hm
    · cases e; exact ⟨by simpa using h.1.2.1, h.1.1⟩
    · exact sts_mem h.2 n k hm
theorem keys_inj {ρ : Nat → Nat} : ∀ {l : List (Nat × Option Blk)}, keysOk ρ l = true → ∀ p ∈ l, ∀ q ∈ l, ρ p.1 = ρ q.1 → p.1 = q.1
  | x :: r, h, p, hp, q, hq, e => by
    rw [keysOk, Bool.and_eq_true] at h
    have h1 : ∀ q ∈ r, ¬ ρ x.1 = ρ q.1 := fun q hq => by
      intro e
      have := List.all_eq_true.1 h.1 q hq
      rw [e] at this
      simp at this
    rcases List.mem_cons.1 hp with e1 | hp
    · rcases List.mem_cons.1 hq with e2 | hq
      · rw [e1, e2]
      · exact absurd (e1 ▸ e) (h1 q hq)
    · rcases List.mem_cons.1 hq with e2 | hq
      · exact absurd (e2 ▸ e.symm) (h1 p hp)
      · exact keys_inj h.2 p hp q hq e
theorem blk_mem {s : S} {n : Nat} {k : Blk} (h : s.blk n = some k) : (n, some k) ∈ s.st := by
  unfold S.blk at h
  cases hl : lk s.st n with
  | none => rw [hl] at h; cases h
  | some x => rw [hl] at h; simp only at h; subst h; exact lk_mem hl
theorem ren_none {ρ : Nat → Nat} {X A A' : Nat → Prop} {φ φ' : Nat → Pl} {w : World} {v : V} (hv : v.names = []) {x : Value} (h : Rep X A φ w v x) : Rep X A' φ' w v x := by
  suffices H : ∀ {v : V} {x : Value}, Rep X A φ w v x → v.names = [] → Rep X A' φ' w v x from H h hv
  intro v x h
  induction h with
  | fz h => exact fun _ => .fz h
  | agg h1 h2 _ ih =>
    intro hn
    refine .agg h1 h2 fun i y c hy hc => ih i y c hy hc (List.eq_nil_iff_forall_not_mem.2 fun m hm => ?_)
    rw [V.names] at hn
    have := mem_namesL.2 ⟨y, List.mem_of_getElem? hy, hm⟩
    rw [hn] at this; cases this
  | tup h1 _ ih =>
    intro hn
    refine .tup h1 fun i y c hy hc => ih i y c hy hc (List.eq_nil_iff_forall_not_mem.2 fun m hm => ?_)
    rw [V.names] at hn
    have := mem_namesL.2 ⟨y, List.mem_of_getElem? hy, hm⟩
    rw [hn] at this; cases this
  | fn h1 h2 _ _ ih1 ih2 =>
    intro hn
    rw [V.names, List.append_eq_nil_iff] at hn
    refine .fn h1 h2 (fun i y c hy hc => ih1 i y c hy hc (List.eq_nil_iff_forall_not_mem.2 fun m hm => ?_)) (fun i y c hy hc => ih2 i y c hy hc (List.eq_nil_iff_forall_not_mem.2 fun m hm => ?_))
    · have := mem_namesL.2 ⟨y, List.mem_of_getElem? hy, hm⟩
      rw [hn.1] at this; cases this
    · have := mem_namesL.2 ⟨y, List.mem_of_getElem? hy, hm⟩
      rw [hn.2] at this; cases this
  | ifc _ ih => exact fun hn => .ifc (ih (by rw [V.names] at hn; exact hn))
  | own0 => intro hn; simp [V.names] at hn
  | own => intro hn; simp [V.names] at hn
  | loc => intro hn; simp [V.names] at hn
  | mp => intro hn; simp [V.names] at hn
theorem renL_cells (ρ : Nat → Nat) (v : V) : (v.ren ρ).cells = v.cells.map (V.ren ρ) := by
  cases v <;> simp [V.ren, V.cells, renL_map]
theorem one_ren (ρ : Nat → Nat) (v : V) : (v.ren ρ).one = v.one := by cases v <;> simp [V.ren, V.one]
/-- The first K names stay what they are. -/
def pinOk (ρ : Nat → Nat) (K nx : Nat) : Bool := (List.range K).all fun n => Nat.beq (ρ n) n && Nat.blt n nx
theorem Le.rel {ρ : Nat → Nat} {s1 : S} (h : Le ρ s1 s) (hp : pinOk ρ N.K s1.nx = true) {M A : Nat → Prop} {φ : Nat → Pl} {a : Act} {w : World} (hr : Rel N M A φ s a w) : Rel N M (· < s1.nx) (fun n => φ (ρ n)) s1 a w where
  tm t v ht := by
    obtain ⟨h1, h2⟩ := tms_mem h.tm _ (lk_mem ht)
    exact ⟨by rw [h.nt]; exact (hr.tm t _ h1).1, Rep.ren (ρ := ρ) (fun n hn => ⟨h2 n hn, rfl⟩) (hr.tm t _ h1).2⟩
  nt := by rw [h.nt]; exact hr.nt
  st n k hk := by
    have hm := blk_mem hk
    obtain ⟨h1, h2⟩ := sts_mem h.st n k hm
    refine ⟨h1, ?_⟩
    cases k with
    | els T sz xs =>
      obtain ⟨h3, h4⟩ := h2
      obtain ⟨g1, g2, g3, g4, g5⟩ := (hr.st _ _ h3).2
      rw [renL_map] at g3 g4 g5
      rw [List.length_map] at g3
      refine ⟨g1, g2, g3, fun x hx => ?_, ?_⟩
      · obtain ⟨k1, k2⟩ := g4 (x.ren ρ) (List.mem_map.2 ⟨x, hx, rfl⟩)
        rw [renL_cells] at k1 k2
        rw [List.length_map] at k1
        exact ⟨k1, fun u hu => by rw [← one_ren ρ]; exact k2 _ (List.mem_map.2 ⟨u, hu, rfl⟩)⟩
      · rcases g5 with ⟨k1, k2, k3⟩ | ⟨b, cur, k1, k2, k3, k4, k5, k6, k7⟩
        · exact .inl ⟨k1, by simpa using k2, k3⟩
        · rw [List.length_map] at k5
          refine .inr ⟨b, cur, k1, k2, k3, k4, k5, k6, fun i j x u hx hu => ?_⟩
          obtain ⟨c, hc, hrep⟩ := k7 i j (x.ren ρ) (u.ren ρ) (by simp [hx]) (by rw [renL_cells]; simp [hu])
          refine ⟨c, hc, Rep.ren (ρ := ρ) (fun n hn => ⟨h4 n (mem_namesL.2 ⟨x, List.mem_of_getElem? hx, ?_⟩), rfl⟩) hrep⟩
          cases x <;> first
            | (simp only [V.cells] at hu; rw [V.names, mem_namesL]; exact ⟨u, List.mem_of_getElem? hu, hn⟩)
            | (simp only [V.cells, List.getElem?_singleton] at hu; split at hu <;> cases hu; exact hn)
    | map es =>
      obtain ⟨h3, h4⟩ := h2
      obtain ⟨b, ents, clock, g1, g2, g3, g4, g5⟩ := (hr.st _ _ h3).2
      exact ⟨b, ents, clock, g1, g2, g3, g4, fun i k v e hk he => ⟨(g5 i k v e hk he).1, ren_none (ρ := ρ) (h4 _ (List.mem_of_getElem? hk)) (g5 i k v e hk he).2⟩⟩
    | sit t pos => exact (hr.st _ _ h2).2
  inj n n' k k' b h1 h2 h3 h4 := by
    have e1 := blk_mem h1
    have e2 := blk_mem h2
    have f1 : ∃ q, s.blk (ρ n) = some q := by
      have := (sts_mem h.st n k e1).2
      cases k with
      | els => exact ⟨_, this.1⟩
      | map => exact ⟨_, this.1⟩
      | sit => exact ⟨_, this⟩
    have f2 : ∃ q, s.blk (ρ n') = some q := by
      have := (sts_mem h.st n' k' e2).2
      cases k' with
      | els => exact ⟨_, this.1⟩
      | map => exact ⟨_, this.1⟩
      | sit => exact ⟨_, this⟩
    obtain ⟨q, f1⟩ := f1
    obtain ⟨q', f2⟩ := f2
    exact keys_inj h.ks _ e1 _ e2 (hr.inj _ _ _ _ b f1 f2 h3 h4)
  lim := hr.lim
  dis := hr.dis
  df := hr.df
  pin n hn := by
    have := List.all_eq_true.1 hp n (List.mem_range.2 hn)
    simp only [Bool.and_eq_true] at this
    rw [Nat.eq_of_beq_eq_true this.1]
    exact ⟨by simpa using this.2, (hr.pin n hn).2⟩
  gl := hr.gl
theorem awp_le {ρ : Nat → Nat} {s1 : S} (h : Le ρ s1 s) (hp : pinOk ρ N.K s1.nx = true) (k : AWp P N c Q s1) : AWp P N c Q s := fun _ _ a w hr => k _ _ a w (h.rel hp hr)

/-- A loop: at each round's begin the state is st x for some x that I speaks of; μ falls. -/
theorem awp_loop {α : Type} (st : α → S) (I : α → Prop) (μ : α → Nat) (x0 : α) (ρ0 : Nat → Nat) (h0 : Le ρ0 (st x0) s) (hp0 : pinOk ρ0 N.K (st x0).nx = true) (hI : I x0)
    (round : ∀ x, I x → AWp P N c (AThen (fun s' => ∃ y ρ, I y ∧ μ y < μ x ∧ Le ρ (st y) s' ∧ pinOk ρ N.K (st y).nx = true) Q) (st x)) : AWp P N (.loop c) Q s := fun M φ a w hr => by
  let J : Act → World → Nat → Prop := fun a' w' n => ∃ x M' φ', I x ∧ μ x = n ∧ Stays M w w' ∧ (∀ b, b < w.heap.size → M' b → M b) ∧ Rel N M' (· < (st x).nx) φ' (st x) a' w'
  have least : ∀ a' w' n, J a' w' n → ∃ m, J a' w' m ∧ ∀ k, J a' w' k → m ≤ k := by
    intro a' w' n
    induction n using Nat.strongRecOn with
    | _ n ih =>
      intro hn
      by_cases h : ∃ k, k < n ∧ J a' w' k
      · obtain ⟨k, hk, hj⟩ := h
        exact ih k hk hj
      · exact ⟨n, hn, fun k hk => Nat.le_of_not_lt fun hlt => h ⟨k, hlt, hk⟩⟩
  let ν : Act → World → Nat := fun a' w' => Classical.epsilon fun m => J a' w' m ∧ ∀ k, J a' w' k → m ≤ k
  have hν : ∀ a' w' n, J a' w' n → J a' w' (ν a' w') ∧ ∀ k, J a' w' k → ν a' w' ≤ k := fun a' w' n h => Classical.epsilon_spec (least a' w' n h)
  refine wp_loop (fun a' w' => ∃ n, J a' w' n) ν ⟨_, x0, M, _, hI, rfl, .refl _ _, fun _ _ h => h, h0.rel hp0 hr⟩ fun a1 w1 ⟨n1, hj⟩ => ?_
  obtain ⟨⟨x, M1, φ1, hx, hμ, hs, hM, hr1⟩, _⟩ := hν a1 w1 n1 hj
  refine wp_mono (round x hx M1 φ1 a1 w1 hr1) fun e a2 w2 ⟨M2, φ2, s2, k1, k2, k3, k4⟩ => ?_
  cases e with
  | normal =>
    obtain ⟨y, ρ, hy, hlt, hle, hpy⟩ := k4
    have hj2 : J a2 w2 (μ y) := ⟨y, M2, _, hy, rfl, hs.trans k1 hM, fun b hb h => hM b hb (k2 b (Nat.lt_of_lt_of_le hb hs.size) h), hle.rel hpy k3⟩
    exact ⟨⟨_, hj2⟩, Nat.lt_of_le_of_lt ((hν a2 w2 _ hj2).2 _ hj2) (by rw [← hμ]; exact hlt)⟩
  | _ => exact ⟨M2, φ2, s2, hs.trans k1 hM, fun b hb h => hM b hb (k2 b (Nat.lt_of_lt_of_le hb hs.size) h), k3, k4⟩
/-- A loop of at most n rounds. -/
def ARounds (P : Program) (N : Env) (c : Code) (Q : Exit → S → Prop) : Nat → S → Prop
  | 0, _ => False
  | n + 1, s => AWp P N c (AThen (ARounds P N c Q n) Q) s
theorem awp_rounds (n : Nat) (h : ARounds P N c Q n s) : AWp P N (.loop c) Q s := by
  have key : ∀ n s, ARounds P N c Q n s → ∀ M φ a w, Rel N M (· < s.nx) φ s a w → Code.rounds P c (Post N Q M w) n a w := by
    intro n
    induction n with
    | zero => exact fun s h => h.elim
    | succ n ih =>
      intro s h M φ a w hr
      rw [rounds_succ]
      refine wp_mono (h M φ a w hr) fun e a' w' ⟨M', φ', s', h1, h2, h3, h4⟩ => ?_
      cases e with
      | normal => exact rounds_mono (fun e a2 w2 => Post.after h1 h2) n a' w' (ih s' h4 M' φ' a' w' h3)
      | _ => exact ⟨M', φ', s', h1, h2, h3, h4⟩
  exact fun M φ a w hr => wp_loop_rounds n (key n s h M φ a w hr)
end
end Go.Proofs.YtefcfickggnmjaaDoor.Abs
