/- Loops, as a walk takes them. Over any program. -/
import Derived.Test.YtefcfickggnmjaaDoorAbsL
namespace Go.Proofs.YtefcfickggnmjaaDoor.Abs
open Go.RowKit Mem Facts

mutual
theorem ren_self : ∀ v : V, v.ren id = v
  | .agg vs => by rw [V.ren, renL_self vs]
  | .tup vs => by rw [V.ren, renL_self vs]
  | .fn f a b => by rw [V.ren, renL_self a, renL_self b]
  | .ifc t v => by rw [V.ren, ren_self v]
  | .own _ _ _ | .loc _ _ _ | .mp _ | .int _ _ | .bool _ | .str _ | .fro _ | .nils | .fp _ _ | .nilp | .nilf | .nili | .nilm | .und => rfl
theorem renL_self : ∀ l : List V, V.renL id l = l
  | [] => rfl
  | v :: r => by rw [V.renL, ren_self v, renL_self r]
end
def NLt (nx : Nat) (v : V) : Prop := (v.names.all fun n => Nat.blt n nx) = true
/-- The same, told by less, under the same names. -/
def TmsI (s : S) (nx : Nat) : List (Nat × V) → Prop
  | [] => True
  | p :: r => (lk s.tm p.1 = some p.2 ∧ NLt nx p.2) ∧ TmsI s nx r
def StI (s : S) (nx : Nat) : List (Nat × Option Blk) → Prop
  | [] => True
  | (n, none) :: r => StI s nx r ∧ n = n
  | (n, some (.els T sz xs)) :: r => ((s.blk n = some (.els T sz xs) ∧ ((V.namesL xs).all fun n => Nat.blt n nx) = true) ∧ Nat.blt n nx = true) ∧ StI s nx r
  | (n, some k) :: r => (s.blk n = some k ∧ Nat.blt n nx = true ∧ (match k with | .map es => ∀ p ∈ es, p.2.names = [] | _ => True)) ∧ StI s nx r
theorem names_none {l : List V} {nx : Nat} (h : ∀ v ∈ l, v.names = []) : ((V.namesL l).all fun n => Nat.blt n nx) = true := by
  have : V.namesL l = [] := List.eq_nil_iff_forall_not_mem.2 fun m hm => by
    obtain ⟨v, hv, hm⟩ := mem_namesL.1 hm
    rw [h v hv] at hm; cases hm
  rw [this]; rfl
theorem names_map {α : Type} {L : List α} {f : α → V} {nx : Nat} (h : ∀ a, (f a).names = []) : ((V.namesL (L.map f)).all fun n => Nat.blt n nx) = true := names_none fun v hv => by
  obtain ⟨a, _, rfl⟩ := List.mem_map.1 hv
  exact h a
structure LeI (K : Nat) (s1 s : S) : Prop where
  nt : s1.nt = s.nt
  tm : TmsI s s1.nx s1.tm
  st : StI s s1.nx s1.st
  ks : keysOk id s1.st = true
  hk : Nat.ble K s1.nx = true
theorem tmsI {s : S} {nx nt : Nat} : ∀ {l : List (Nat × V)}, TmsI s nx l → TmsOk id s nx nt l
  | [], _ => trivial
  | p :: r, h => ⟨⟨by rw [ren_self]; exact h.1.1, h.1.2⟩, tmsI h.2⟩
theorem stI {s : S} {nx : Nat} : ∀ {l : List (Nat × Option Blk)}, StI s nx l → StOk id s nx l
  | [], _ => trivial
  | (n, none) :: r, h => ⟨stI h.1, rfl⟩
  | (n, some (.els T sz xs)) :: r, h => ⟨⟨.inr ⟨by rw [renL_self]; exact h.1.1.1, h.1.1.2⟩, h.1.2⟩, stI h.2⟩
  | (n, some (.map es)) :: r, h => ⟨h.1, stI h.2⟩
  | (n, some (.sit s p)) :: r, h => ⟨h.1, stI h.2⟩
theorem LeI.le {K : Nat} {s1 s : S} (h : LeI K s1 s) : Le id s1 s ∧ pinOk id K s1.nx = true := by
  refine ⟨⟨h.nt, tmsI h.tm, stI h.st, h.ks⟩, List.all_eq_true.2 fun n hn => ?_⟩
  have h1 := Nat.le_of_ble_eq_true h.hk
  have h2 := List.mem_range.1 hn
  simp only [id, Bool.and_eq_true]
  exact ⟨by simp, by simpa using Nat.lt_of_lt_of_le h2 h1⟩
section
variable {P : Program} {N : Env} {Q : Exit → S → Prop} {s : S} {c : Code}
theorem awp_lei {s1 : S} (h : LeI N.K s1 s) (k : AWp P N c Q s1) : AWp P N c Q s := awp_le h.le.1 h.le.2 k
/-- A loop that counts. -/
theorem awp_for (st : Nat → S) (I : Nat → Prop) (n k0 : Nat) (h0 : LeI N.K (st k0) s) (hI : I k0) (round : ∀ k, I k → AWp P N c (AThen (fun s' => I (k + 1) ∧ k < n ∧ LeI N.K (st (k + 1)) s') Q) (st k)) : AWp P N (.loop c) Q s := by
  refine awp_loop st I (fun k => n - k) k0 id h0.le.1 h0.le.2 hI fun k hk => (round k hk).mono fun e s' h => ?_
  cases e with
  | normal =>
    obtain ⟨h1, h2, h3⟩ := h
    exact ⟨k + 1, id, h1, by omega, h3.le.1, h3.le.2⟩
  | _ => exact h
/-- A loop with a measure. -/
theorem awp_while {α : Type} (st : α → S) (I : α → Prop) (μ : α → Nat) (x0 : α) (h0 : LeI N.K (st x0) s) (hI : I x0) (round : ∀ x, I x → AWp P N c (AThen (fun s' => ∃ y, I y ∧ μ y < μ x ∧ LeI N.K (st y) s') Q) (st x)) : AWp P N (.loop c) Q s := by
  refine awp_loop st I μ x0 id h0.le.1 h0.le.2 hI fun x hx => (round x hx).mono fun e s' h => ?_
  cases e with
  | normal =>
    obtain ⟨y, h1, h2, h3⟩ := h
    exact ⟨y, id, h1, h2, h3.le.1, h3.le.2⟩
  | _ => exact h
/-- All ways out of a part come to one state. -/
theorem awp_cut {x y : Code} {s1 : S} (k : AWp P N y Q s1) (h : AWp P N x (AThen (fun s' => LeI N.K s1 s') Q) s) : AWp P N (.seq x y) Q s := by
  refine awp_seq (h.mono fun e s' h => ?_)
  cases e with
  | normal => exact awp_lei h k
  | _ => exact h
theorem awp_cutR {id : Nat} {l : Array Oper} {d : Bool} {x y : Code} (s1 : S) (k : AWp P N y Q s1) (h : AWp P N (.seq (.region id l d) x) (AThen (fun s' => LeI N.K s1 s') Q) s) : AWp P N (.seq (.seq (.region id l d) x) y) Q s := awp_cut k h
theorem awp_cutB {id : Nat} {x y : Code} (s1 : S) (k : AWp P N y Q s1) (h : AWp P N (.block id x) (AThen (fun s' => LeI N.K s1 s') Q) s) : AWp P N (.seq (.block id x) y) Q s := awp_cut k h
theorem isLe {K : Nat} {a b : S} (h : LeI K a b) : LeI K a b := h
theorem then_k {K : S → Prop} (h : K s) : AThen K Q .normal s := h
end
theorem byte_eq {c d : UInt8} : c = d ↔ (c.toNat : Int) = (d.toNat : Int) := ⟨fun h => by rw [h], fun h => UInt8.toNat.inj (Int.ofNat.inj h)⟩
theorem frz_map {α : Type} {L : List α} {f : α → V} (h : ∀ a, (f a).names = []) : (∀ x ∈ L.map f, x.names = []) ∧ 0 + L.length ≤ (L.map f).length := ⟨fun x hx => by
  obtain ⟨a, _, rfl⟩ := List.mem_map.1 hx
  exact h a, by simp⟩
theorem fro_whole {α : Type} {L : List α} {f : α → V} : V.fro (List.take L.length (List.drop 0 (L.map f))) = V.fro (L.map f) := by rw [List.drop_zero, List.take_of_length_le (by simp)]
/-! ### The same under other names -/
def TmsN (ns : List Nat) (s : S) : List (Nat × V) → Prop
  | [] => True
  | p :: r => (∃ u, lk s.tm p.1 = some u ∧ renO ns p.2 = some u) ∧ TmsN ns s r
def StN (ns : List Nat) (s : S) : List (Nat × Option Blk) → Prop
  | [] => True
  | (n, none) :: r => StN ns s r ∧ n = n
  | (n, some b) :: r => (∃ c, s.blk (nm ns n) = some c ∧ RenB ns b c ∧ Nat.blt n ns.length = true) ∧ StN ns s r
structure LeN (ns : List Nat) (K : Nat) (s1 s : S) : Prop where
  nt : s1.nt = s.nt
  len : Nat.beq ns.length s1.nx = true
  tm : TmsN ns s s1.tm
  st : StN ns s s1.st
  ks : keysOk (nm ns) s1.st = true
  pin : pinOk (nm ns) K s1.nx = true
theorem all_lt {l : List Nat} {m nx : Nat} (h : ∀ n ∈ l, n < m) (e : m = nx) : (l.all fun n => Nat.blt n nx) = true := List.all_eq_true.2 fun n hn => by subst e; simpa using h n hn
theorem tmsN {ns : List Nat} {s : S} {nx nt : Nat} (e : ns.length = nx) : ∀ {l : List (Nat × V)}, TmsN ns s l → TmsOk (nm ns) s nx nt l
  | [], _ => trivial
  | p :: r, ⟨⟨u, h1, h2⟩, h3⟩ => by
    obtain ⟨h4, h5⟩ := renO_ren h2
    exact ⟨⟨by rw [h1, h4], all_lt h5 e⟩, tmsN e h3⟩
theorem stN {ns : List Nat} {s : S} {nx : Nat} (e : ns.length = nx) : ∀ {l : List (Nat × Option Blk)}, StN ns s l → StOk (nm ns) s nx l
  | [], _ => trivial
  | (n, none) :: r, h => ⟨stN e h.1, rfl⟩
  | (n, some (.els T sz xs)) :: r, ⟨⟨c, h1, h2, h3⟩, h4⟩ => by
    refine ⟨⟨?_, by rw [← e]; exact h3⟩, stN e h4⟩
    cases h2 with
    | same hn => exact .inl ⟨h1, fun x hx => List.eq_nil_iff_forall_not_mem.2 fun m hm => by have := mem_namesL.2 ⟨x, hx, hm⟩; rw [hn] at this; cases this⟩
    | ren hr =>
      obtain ⟨h5, h6⟩ := renOL_ren hr
      exact .inr ⟨by rw [h1, h5], all_lt h6 e⟩
  | (n, some (.map es)) :: r, ⟨⟨c, h1, h2, h3⟩, h4⟩ => by
    cases h2 with
    | map hn => exact ⟨⟨h1, by rw [← e]; exact h3, hn⟩, stN e h4⟩
  | (n, some (.sit t p)) :: r, ⟨⟨c, h1, h2, h3⟩, h4⟩ => by
    cases h2 with
    | sit => exact ⟨⟨h1, by rw [← e]; exact h3, trivial⟩, stN e h4⟩
theorem LeN.le {ns : List Nat} {K : Nat} {s1 s : S} (h : LeN ns K s1 s) : Le (nm ns) s1 s := by
  have e := Nat.eq_of_beq_eq_true h.len
  exact ⟨h.nt, tmsN e h.tm, stN e h.st, h.ks⟩
theorem nl_map {α : Type} {L : List α} {f : α → V} (h : ∀ a, (f a).names = []) : V.namesL (L.map f) = [] := List.eq_nil_iff_forall_not_mem.2 fun m hm => by
  obtain ⟨v, hv, hm⟩ := mem_namesL.1 hm
  obtain ⟨a, _, rfl⟩ := List.mem_map.1 hv
  rw [h a] at hm; cases hm
section
variable {P : Program} {N : Env} {Q : Exit → S → Prop} {s : S} {c : Code}
theorem awp_len {s1 : S} (ns : List Nat) (h : LeN ns N.K s1 s) (k : AWp P N c Q s1) : AWp P N c Q s := awp_le h.le h.pin k
/-- A loop that counts, in which names turn. -/
theorem awp_forN (st : Nat → S) (I : Nat → Prop) (n k0 : Nat) (h0 : LeI N.K (st k0) s) (hI : I k0) (round : ∀ k, I k → AWp P N c (AThen (fun s' => I (k + 1) ∧ k < n ∧ ∃ ns, LeN ns N.K (st (k + 1)) s') Q) (st k)) : AWp P N (.loop c) Q s := by
  refine awp_loop st I (fun k => n - k) k0 id h0.le.1 h0.le.2 hI fun k hk => (round k hk).mono fun e s' h => ?_
  cases e with
  | normal =>
    obtain ⟨h1, h2, ns, h3⟩ := h
    exact ⟨k + 1, nm ns, h1, by omega, h3.le, h3.pin⟩
  | _ => exact h
theorem awp_whileN {α : Type} (st : α → S) (I : α → Prop) (μ : α → Nat) (x0 : α) (h0 : LeI N.K (st x0) s) (hI : I x0) (round : ∀ x, I x → AWp P N c (AThen (fun s' => ∃ y, I y ∧ μ y < μ x ∧ ∃ ns, LeN ns N.K (st y) s') Q) (st x)) : AWp P N (.loop c) Q s := by
  refine awp_loop st I μ x0 id h0.le.1 h0.le.2 hI fun x hx => (round x hx).mono fun e s' h => ?_
  cases e with
  | normal =>
    obtain ⟨y, h1, h2, ns, h3⟩ := h
    exact ⟨y, nm ns, h1, h2, h3.le, h3.pin⟩
  | _ => exact h
/-- A nil slice may be named: a row of nothing. -/
theorem awp_name {tm : List (Nat × V)} {st : List (Nat × Option Blk)} {nx nt t : Nat} (T sz : Nat) (h0 : 0 < sz) (ht : lk tm t = some .nils) (hK : Nat.ble N.K nx = true) (k : AWp P N c Q ⟨(t, .own nx 0 0) :: tm, (nx, some (.els T sz [])) :: st, nx + 1, nt⟩) : AWp P N c Q ⟨tm, st, nx, nt⟩ := fun M φ a w hr => by
  let φ' : Nat → Pl := fun n => if n = nx then ⟨none, sz, 0⟩ else φ n
  have hφ : ∀ n, n < nx → φ' n = φ n := fun n hn => if_neg (by omega)
  have hφν : φ' nx = ⟨none, sz, 0⟩ := if_pos rfl
  have hA : ∀ n, n < nx → n < nx + 1 := fun n h => by omega
  have eb : ∀ n, S.blk ⟨(t, .own nx 0 0) :: tm, (nx, some (.els T sz [])) :: st, nx + 1, nt⟩ n = if nx = n then some (.els T sz []) else S.blk ⟨tm, st, nx, nt⟩ n := fun n => by
    unfold S.blk
    simp only [lk_put]
    by_cases e : nx = n <;> simp [e]
  refine k M φ' a w ⟨fun q v hq => ?_, hr.nt, fun n b hb => ?_, fun n n' b b' x e1 e2 e3 e4 => ?_, hr.lim, hr.dis, hr.df, fun n hn => ?_, hr.gl⟩
  · change lk ((t, .own nx 0 0) :: tm) q = some v at hq
    rw [lk_put] at hq
    split at hq
    · rename_i e
      subst e; cases hq
      obtain ⟨g1, g2⟩ := hr.tm t _ ht
      refine ⟨g1, ?_⟩
      have : a.tmps.getD t undef = .slice none 0 0 := by
        have h : ∀ x, Rep (fun b => M b ∨ N b) (· < nx) φ w .nils x → x = .slice none 0 0 := fun x h => by
          cases h with
          | fz h => cases h; rfl
        exact h _ g2
      rw [this]
      exact .own0 (Nat.lt_succ_self nx) (by rw [hφν])
    · obtain ⟨g1, g2⟩ := hr.tm q v hq
      exact ⟨g1, g2.mono (fun _ _ h => h) (.refl _ w) hA hφ⟩
  · rw [eb] at hb
    split at hb
    · rename_i e
      subst e; cases hb
      refine ⟨Nat.lt_succ_self nx, by rw [hφν], h0, by simp [LIM], (by intro x hx; simp at hx), .inl ⟨by rw [hφν], rfl, by rw [hφν]⟩⟩
    · obtain ⟨g1, g2⟩ := hr.st n b hb
      have g1 : n < nx := g1
      refine ⟨hA n g1, ?_⟩
      rw [hφ n g1]
      exact g2.mono (fun _ _ h => h) (.refl _ w) hA hφ (fun _ h => h) fun _ _ => rfl
  · rw [eb] at e1 e2
    split at e1
    · rename_i e; subst e; rw [hφν] at e3; cases e3
    · split at e2
      · rename_i e; subst e; rw [hφν] at e4; cases e4
      · have g1 : n < nx := (hr.st n b e1).1
        have g2 : n' < nx := (hr.st n' b' e2).1
        rw [hφ n g1] at e3
        rw [hφ n' g2] at e4
        exact hr.inj n n' b b' x e1 e2 e3 e4
  · obtain ⟨g1, g2⟩ := hr.pin n hn
    exact ⟨hA n g1, (hφ n g1).trans g2⟩
end
section
variable {P : Program} {N : Env} {o : Oper} {tb : List Ty} {T : Nat} {e ee : Ty}
/-- One more onto a row that bears a list. -/
theorem law_append1 {α : Type} {f : α → V} {L : List α} {a : α} {x y : Operand} {n ν el sz : Nat} {z : V} (hf : ∀ a, (f a).cells.length = sz ∧ ∀ u ∈ (f a).cells, u.one = true) (htb : TbOk P tb) (ho : o.op = .call { callee := .builtin .append, args := #[x, y], argTypes := #[T, T] }) (hT : nth tb T = some e) (hs : e.sl = some el) (hE : nth tb el = some ee) (hz : ee.zeroV = some z) (hsz : ee.size = sz) (hzl : z.cells.length = sz)
    (hlim : L.length + 1 ≤ LIM) (hby : (L.length + 1) * ee.bytes ≤ 140737488355328) :
    OpLaw P N o ⟨[(x, .own n 0 L.length), (y, .fro [f a])], [(n, .els el sz (L.map f))]⟩ (.own ν 0 (L ++ [a]).length) [(n, none), (ν, some (.els el sz ((L ++ [a]).map f)))] [ν] :=
  law_append htb ho hT hs hE hz hsz hzl (fun q hq => by rw [List.mem_singleton] at hq; subst hq; exact hf a) (by simp) (by simp) (by simp) (by simpa using hlim) (by simpa using hby)
end
/-- p lets all ahead of place k. -/
def Upto {α : Type} (p : α → Bool) (l : List α) (k : Nat) : Prop := ∀ j y, j < k → l[j]? = some y → p y = true
theorem upto0 {α : Type} {p : α → Bool} {l : List α} : Upto p l 0 := fun j y h => absurd h (Nat.not_lt_zero _)
theorem Upto.on {α : Type} {p : α → Bool} {l : List α} {k : Nat} {c : α} (h : Upto p l k) (e : l[k]? = some c) (hc : p c = true) : Upto p l (k + 1) := fun j y hj hy => by
  rcases Nat.lt_succ_iff_lt_or_eq.1 hj with h1 | rfl
  · exact h j y h1 hy
  · rw [e] at hy; cases hy; exact hc
theorem Upto.all {α : Type} {p : α → Bool} {l : List α} {k : Nat} (h : Upto p l k) (hk : ¬ k < l.length) : l.all p = true := List.all_eq_true.2 fun x hx => by
  obtain ⟨i, hi⟩ := List.mem_iff_getElem?.1 hx
  exact h i x (by have := (List.getElem?_eq_some_iff.1 hi).1; omega) hi
theorem all_no {α : Type} {p : α → Bool} {l : List α} {k : Nat} {c : α} (e : l[k]? = some c) (hc : p c = false) : l.all p = false := by
  cases h : l.all p with
  | false => rfl
  | true => have := List.all_eq_true.1 h c (List.mem_of_getElem? e); rw [hc] at this; cases this
/-- The first that p lets; -1: none. -/
def firstI {α : Type} (p : α → Bool) (l : List α) : Int := match l.findIdx? p with
  | some i => (i : Int)
  | none => -1
theorem firstI_none {α : Type} {p : α → Bool} {l : List α} (h : ∀ x ∈ l, p x = false) : firstI p l = -1 := by
  have : l.findIdx? p = none := List.findIdx?_eq_none_iff.2 (fun x hx => by simpa using h x hx)
  unfold firstI; rw [this]
theorem firstI_at {α : Type} {p : α → Bool} {l : List α} {i : Nat} {x : α} (h : ∀ (j : Nat) y, j < i → l[j]? = some y → p y = false) (hx : l[i]? = some x) (hp : p x = true) : firstI p l = (i : Int) := by
  obtain ⟨hi, e⟩ := List.getElem?_eq_some_iff.1 hx
  have : l.findIdx? p = some i := List.findIdx?_eq_some_iff_getElem.2 ⟨hi, by rw [e]; exact hp, fun j hj => by
    have := h j l[j] hj (by simp)
    simp [this]⟩
  unfold firstI; rw [this]
theorem firstI_ge {α : Type} {p : α → Bool} {l : List α} : 0 ≤ firstI p l ↔ l.any p = true := by
  unfold firstI
  cases h : l.findIdx? p with
  | none =>
    have := List.findIdx?_eq_none_iff.1 h
    simp only [Int.reduceNeg, Int.reduceLE, List.any_eq_true, false_iff, not_exists, not_and]
    intro x hx; simpa using this x hx
  | some i =>
    obtain ⟨h1, h2, _⟩ := List.findIdx?_eq_some_iff_getElem.1 h
    simp only [List.any_eq_true]
    exact ⟨fun _ => ⟨l[i], List.getElem_mem _, h2⟩, fun _ => Int.natCast_nonneg _⟩
end Go.Proofs.YtefcfickggnmjaaDoor.Abs
