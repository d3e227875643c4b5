/- Calls that change rows of the caller's, or make some for it, over named trees. Over any program. -/
import Derived.Test.YtefcfickggnmjaaDoorAbsG
namespace Go.Proofs.YtefcfickggnmjaaDoor.Abs
open Go.RowKit Mem Facts

/-! ### Other names, so told that 'rfl' reads them off -/
def nm (ns : List Nat) (n : Nat) : Nat := match nth ns n with
  | some m => m
  | none => 0
mutual
def renO (ns : List Nat) : V → Option V
  | .own n i l => match nth ns n with
    | some m => some (.own m i l)
    | none => none
  | .loc n i o => match nth ns n with
    | some m => some (.loc m i o)
    | none => none
  | .mp n => match nth ns n with
    | some m => some (.mp m)
    | none => none
  | .agg vs => match renOL ns vs with
    | some us => some (.agg us)
    | none => none
  | .tup vs => match renOL ns vs with
    | some us => some (.tup us)
    | none => none
  | .fn f a b => match renOL ns a, renOL ns b with
    | some x, some y => some (.fn f x y)
    | _, _ => none
  | .ifc t v => match renO ns v with
    | some u => some (.ifc t u)
    | none => none
  | v => some v
def renOL (ns : List Nat) : List V → Option (List V)
  | [] => some []
  | v :: r => match renO ns v, renOL ns r with
    | some u, some us => some (u :: us)
    | _, _ => none
end
theorem nm_of {ns : List Nat} {n m : Nat} (h : nth ns n = some m) : nm ns n = m ∧ n < ns.length := by
  refine ⟨by unfold nm; rw [h], ?_⟩
  rw [nth_eq] at h
  exact (List.getElem?_eq_some_iff.1 h).1
mutual
theorem renO_ren {ns : List Nat} : ∀ {v u : V}, renO ns v = some u → u = v.ren (nm ns) ∧ ∀ n ∈ v.names, n < ns.length
  | .own n i l, u, h => by
    rw [renO] at h
    split at h <;> cases h
    rename_i m hm
    obtain ⟨h1, h2⟩ := nm_of hm
    exact ⟨by rw [V.ren, h1], fun n hn => by simp [V.names] at hn; subst hn; exact h2⟩
  | .loc n i l, u, h => by
    rw [renO] at h
    split at h <;> cases h
    rename_i m hm
    obtain ⟨h1, h2⟩ := nm_of hm
    exact ⟨by rw [V.ren, h1], fun n hn => by simp [V.names] at hn; subst hn; exact h2⟩
  | .mp n, u, h => by
    rw [renO] at h
    split at h <;> cases h
    rename_i m hm
    obtain ⟨h1, h2⟩ := nm_of hm
    exact ⟨by rw [V.ren, h1], fun n hn => by simp [V.names] at hn; subst hn; exact h2⟩
  | .agg vs, u, h => by
    rw [renO] at h
    split at h <;> cases h
    rename_i us hus
    obtain ⟨h1, h2⟩ := renOL_ren hus
    exact ⟨by rw [V.ren, h1], fun n hn => h2 n (by rw [V.names] at hn; exact hn)⟩
  | .tup vs, u, h => by
    rw [renO] at h
    split at h <;> cases h
    rename_i us hus
    obtain ⟨h1, h2⟩ := renOL_ren hus
    exact ⟨by rw [V.ren, h1], fun n hn => h2 n (by rw [V.names] at hn; exact hn)⟩
  | .fn f a b, u, h => by
    rw [renO] at h
    split at h <;> cases h
    rename_i x y hx hy
    obtain ⟨h1, h2⟩ := renOL_ren hx
    obtain ⟨h3, h4⟩ := renOL_ren hy
    refine ⟨by rw [V.ren, h1, h3], fun n hn => ?_⟩
    rw [V.names, List.mem_append] at hn
    exact hn.elim (h2 n) (h4 n)
  | .ifc t v, u, h => by
    rw [renO] at h
    split at h <;> cases h
    rename_i us hus
    obtain ⟨h1, h2⟩ := renO_ren hus
    exact ⟨by rw [V.ren, h1], fun n hn => h2 n (by rw [V.names] at hn; exact hn)⟩
  | .int _ _, u, h | .bool _, u, h | .str _, u, h | .fro _, u, h | .nils, u, h | .fp _ _, u, h | .nilp, u, h | .nilf, u, h | .nili, u, h | .nilm, u, h | .und, u, h => by
    have e : u = _ := (Option.some.inj (show some _ = some u from h)).symm
    subst e
    exact ⟨rfl, fun n hn => by cases hn⟩
theorem renOL_ren {ns : List Nat} : ∀ {vs us : List V}, renOL ns vs = some us → us = V.renL (nm ns) vs ∧ ∀ n ∈ V.namesL vs, n < ns.length
  | [], us, h => by rw [renOL] at h; cases h; exact ⟨rfl, fun n hn => by simp [V.namesL] at hn⟩
  | v :: r, us, h => by
    rw [renOL] at h
    split at h <;> cases h
    rename_i x y hx hy
    obtain ⟨h1, h2⟩ := renO_ren hx
    obtain ⟨h3, h4⟩ := renOL_ren hy
    refine ⟨by rw [V.renL, h1, h3], fun n hn => ?_⟩
    rw [V.namesL, List.mem_append] at hn
    exact hn.elim (h2 n) (h4 n)
end
/-- A row under other names. -/
inductive RenB (ns : List Nat) : Blk → Blk → Prop
  | same {T sz xs} : V.namesL xs = [] → RenB ns (.els T sz xs) (.els T sz xs)
  | ren {T sz xs us} : renOL ns xs = some us → RenB ns (.els T sz xs) (.els T sz us)
  | map {es} : (∀ p ∈ es, p.2.names = []) → RenB ns (.map es) (.map es)
  | sit {s p} : RenB ns (.sit s p) (.sit s p)
inductive RenBs (ns : List Nat) : List Blk → List Blk → Prop
  | nil : RenBs ns [] []
  | cons {b c l r} : RenB ns b c → RenBs ns l r → RenBs ns (b :: l) (c :: r)
inductive RenOs (ns : List Nat) : List (Option Blk) → List (Option Blk) → Prop
  | nil : RenOs ns [] []
  | no {l r} : RenOs ns l r → RenOs ns (none :: l) (none :: r)
  | on {b c l r} : RenB ns b c → RenOs ns l r → RenOs ns (some b :: l) (some c :: r)
theorem RenBs.len {ns : List Nat} {l r : List Blk} (h : RenBs ns l r) : l.length = r.length := by
  induction h with
  | nil => rfl
  | cons _ _ ih => simp [ih]
theorem RenBs.at {ns : List Nat} {l r : List Blk} (h : RenBs ns l r) : ∀ (i : Nat) b, l[i]? = some b → ∃ c, r[i]? = some c ∧ RenB ns b c := by
  induction h with
  | nil => intro i b h; simp at h
  | cons h1 _ ih =>
    intro i b h
    rcases i with _ | i
    · simp at h; subst h; exact ⟨_, rfl, h1⟩
    · exact ih i b (by simpa using h)
theorem RenOs.len {ns : List Nat} {l r : List (Option Blk)} (h : RenOs ns l r) : l.length = r.length := by
  induction h with
  | nil => rfl
  | no _ ih => simp [ih]
  | on _ _ ih => simp [ih]
theorem RenOs.back {ns : List Nat} {l r : List (Option Blk)} (h : RenOs ns l r) : ∀ (i : Nat) c, r[i]? = some (some c) → ∃ b, l[i]? = some (some b) ∧ RenB ns b c := by
  induction h with
  | nil => intro i b h; simp at h
  | no _ ih =>
    intro i b h
    rcases i with _ | i
    · simp at h
    · exact ih i b (by simpa using h)
  | on h1 _ ih =>
    intro i b h
    rcases i with _ | i
    · simp at h; subst h; exact ⟨_, rfl, h1⟩
    · exact ih i b (by simpa using h)
theorem RenOs.forth {ns : List Nat} {l r : List (Option Blk)} (h : RenOs ns l r) : ∀ (i : Nat) b, l[i]? = some (some b) → ∃ c, r[i]? = some (some c) ∧ RenB ns b c := by
  induction h with
  | nil => intro i b h; simp at h
  | no _ ih =>
    intro i b h
    rcases i with _ | i
    · simp at h
    · exact ih i b (by simpa using h)
  | on h1 _ ih =>
    intro i b h
    rcases i with _ | i
    · simp at h; subst h; exact ⟨_, rfl, h1⟩
    · exact ih i b (by simpa using h)

section
variable {X X' A A' : Nat → Prop} {φ φ' : Nat → Pl} {w : World}
/-- The same under other names. -/
theorem Rep.unren {ρ : Nat → Nat} {v : V} {x : Value} (h : Rep X A φ w v x) : (∀ n ∈ v.names, A n → A' (ρ n) ∧ φ' (ρ n) = φ n) → Rep X A' φ' w (v.ren ρ) x := by
  induction h with
  | @fz v x h =>
    intro _
    have key : ∀ {v : V} {x : Value}, Fz X w v x → V.names v = [] → v.ren ρ = v := fun _ hn => ren_id _ hn
    have nn : ∀ {v : V} {x : Value}, Fz X w v x → v.names = [] := by
      intro v x h
      induction h with
      | @agg vs cs h1 h2 h3 ih =>
        rw [V.names]
        refine List.eq_nil_iff_forall_not_mem.2 fun m hm => ?_
        obtain ⟨v, hv, hm⟩ := mem_namesL.1 hm
        obtain ⟨i, hi⟩ := List.mem_iff_getElem?.1 hv
        have hl : i < cs.size := by rw [← h1]; exact (List.getElem?_eq_some_iff.1 hi).1
        rw [ih i v cs[i] hi (by simp [hl])] at hm; cases hm
      | @tup vs cs h1 h3 ih =>
        rw [V.names]
        refine List.eq_nil_iff_forall_not_mem.2 fun m hm => ?_
        obtain ⟨v, hv, hm⟩ := mem_namesL.1 hm
        obtain ⟨i, hi⟩ := List.mem_iff_getElem?.1 hv
        have hl : i < cs.size := by rw [← h1]; exact (List.getElem?_eq_some_iff.1 hi).1
        rw [ih i v cs[i] hi (by simp [hl])] at hm; cases hm
      | @fn f as' bs cs ds h1 h2 h3 h4 ih1 ih2 =>
        rw [V.names, List.append_eq_nil_iff]
        refine ⟨List.eq_nil_iff_forall_not_mem.2 fun m hm => ?_, List.eq_nil_iff_forall_not_mem.2 fun m hm => ?_⟩
        · obtain ⟨v, hv, hm⟩ := mem_namesL.1 hm
          obtain ⟨i, hi⟩ := List.mem_iff_getElem?.1 hv
          have hl : i < cs.size := by rw [← h1]; exact (List.getElem?_eq_some_iff.1 hi).1
          rw [ih1 i v cs[i] hi (by simp [hl])] at hm; cases hm
        · obtain ⟨v, hv, hm⟩ := mem_namesL.1 hm
          obtain ⟨i, hi⟩ := List.mem_iff_getElem?.1 hv
          have hl : i < ds.size := by rw [← h2]; exact (List.getElem?_eq_some_iff.1 hi).1
          rw [ih2 i v ds[i] hi (by simp [hl])] at hm; cases hm
      | ifc _ ih => rw [V.names]; exact ih
      | _ => rfl
    rw [key h (nn h)]
    exact .fz h
  | @agg vs cs h1 h2 h3 ih =>
    intro hn
    rw [V.ren, renL_map]
    refine .agg (by simpa using h1) (fun v hv => ?_) (fun i y c hy hc => ?_)
    · obtain ⟨u, hu, rfl⟩ := List.mem_map.1 hv
      rw [one_ren]; exact h2 u hu
    · rw [List.getElem?_map, Option.map_eq_some_iff] at hy
      obtain ⟨u, hu, rfl⟩ := hy
      exact ih i u c hu hc fun n hn' => hn n (by rw [V.names, mem_namesL]; exact ⟨u, List.mem_of_getElem? hu, hn'⟩)
  | @tup vs cs h1 h3 ih =>
    intro hn
    rw [V.ren, renL_map]
    refine .tup (by simpa using h1) (fun i y c hy hc => ?_)
    rw [List.getElem?_map, Option.map_eq_some_iff] at hy
    obtain ⟨u, hu, rfl⟩ := hy
    exact ih i u c hu hc fun n hn' => hn n (by rw [V.names, mem_namesL]; exact ⟨u, List.mem_of_getElem? hu, hn'⟩)
  | @fn f as' bs cs ds h1 h2 h3 h4 ih1 ih2 =>
    intro hn
    rw [V.ren, renL_map, renL_map]
    refine .fn (by simpa using h1) (by simpa using h2) (fun i y c hy hc => ?_) (fun i y c hy hc => ?_)
    · rw [List.getElem?_map, Option.map_eq_some_iff] at hy
      obtain ⟨u, hu, rfl⟩ := hy
      exact ih1 i u c hu hc fun n hn' => hn n (by rw [V.names, List.mem_append, mem_namesL, mem_namesL]; exact .inl ⟨u, List.mem_of_getElem? hu, hn'⟩)
    · rw [List.getElem?_map, Option.map_eq_some_iff] at hy
      obtain ⟨u, hu, rfl⟩ := hy
      exact ih2 i u c hu hc fun n hn' => hn n (by rw [V.names, List.mem_append, mem_namesL, mem_namesL]; exact .inr ⟨u, List.mem_of_getElem? hu, hn'⟩)
  | ifc _ ih => intro hn; rw [V.ren]; exact .ifc (ih fun n hn' => hn n (by rw [V.names]; exact hn'))
  | @own0 n h1 h2 =>
    intro hn
    obtain ⟨g1, g2⟩ := hn n (by simp [V.names]) h1
    rw [V.ren]; exact .own0 g1 (by rw [g2]; exact h2)
  | @own n i len b h1 h2 h3 h4 =>
    intro hn
    obtain ⟨g1, g2⟩ := hn n (by simp [V.names]) h1
    rw [V.ren]
    rw [← g2] at h2 h3 h4 ⊢
    exact .own g1 h2 h3 h4
  | @loc n i off b h1 h2 =>
    intro hn
    obtain ⟨g1, g2⟩ := hn n (by simp [V.names]) h1
    rw [V.ren]
    rw [← g2] at h2 ⊢
    exact .loc g1 h2
  | @mp n b h1 h2 =>
    intro hn
    obtain ⟨g1, g2⟩ := hn n (by simp [V.names]) h1
    rw [V.ren]
    rw [← g2] at h2
    exact .mp g1 h2
theorem names_cells {v : V} {j : Nat} {u : V} (h : v.cells[j]? = some u) : ∀ n ∈ u.names, n ∈ v.names := by
  intro n hn
  cases v <;> simp only [V.cells] at h <;> first
    | (rw [V.names, mem_namesL]; exact ⟨u, List.mem_of_getElem? h, hn⟩)
    | (rcases j with _ | j
       · simp at h; subst h; exact hn
       · simp at h)
end
/-! ### Rows without temporaries -/
structure RowsAt (g : Glob) (N M A : Nat → Prop) (φ : Nat → Pl) (bs : List (Option Blk)) (w : World) : Prop where
  st : ∀ n k, bs[n]? = some (some k) → A n ∧ BlkAt (fun b => M b ∨ N b) M A φ w (φ n) k
  inj : ∀ n n' k k' b, bs[n]? = some (some k) → bs[n']? = some (some k') → (φ n).blk = some b → (φ n').blk = some b → n = n'
  lim : ∀ b, M b ∨ N b → b < w.heap.size
  dis : ∀ b, M b → ¬ N b
  gl : GlOk g (fun b => M b ∨ N b) w
/-- THE CONTRACT of a call that is handed rows (their names: 0, 1, ..), gives r, and leaves the rows st' (the first ones those that were handed). -/
def MCallsG (P : Program) (g : Glob) (f : FuncId) (args : List V) (st : List Blk) (r : V) (st' : List (Option Blk)) : Prop :=
  ∀ (N M : Nat → Prop) (φ : Nat → Pl) (w : World) (vs : Array Value), RowsAt g N M (· < st.length) φ (st.map some) w → args.length = vs.size →
    (∀ (i : Nat) v x, args[i]? = some v → vs[i]? = some x → Rep (fun b => M b ∨ N b) (· < st.length) φ w v x) →
    Calls P f vs w (fun e w' => ∃ x M' φ', e = .returned x ∧ Stays M w w' ∧ (∀ b, b < w.heap.size → M' b → M b) ∧ (∀ n, n < st.length → φ' n = φ n) ∧
      RowsAt g N M' (· < st'.length) φ' st' w' ∧ Rep (fun b => M' b ∨ N b) (· < st'.length) φ' w' r x)
def MCalls (P : Program) (f : FuncId) (args : List V) (st : List Blk) (r : V) (st' : List (Option Blk)) : Prop := ∀ g, MCallsG P g f args st r st'

section
variable {P : Program} {tb : List Ty} {N : Env} {M M' A A' : Nat → Prop} {φ φ' : Nat → Pl} {s : S} {a : Act} {w w' : World} {o : Oper}
/-- The rows that are handed, told by the callee's names. -/
theorem BlkAt.ren_back {ns : List Nat} {X X' : Nat → Prop} {b c : Blk} {pl : Pl} {φc : Nat → Pl} (hX : ∀ b, b < w.heap.size → X' b → X b) (h : RenB ns b c) (hA : ∀ n, n < ns.length → A' n ∧ φc n = φ (nm ns n)) (hM : ∀ b, pl.blk = some b → M b → M' b) (hc : BlkAt X M A φ w pl c) : BlkAt X' M' A' φc w pl b := by
  cases h with
  | same hn =>
    obtain ⟨h1, h2, h3, h4, h5⟩ := hc
    refine ⟨h1, h2, h3, h4, h5.imp id ?_⟩
    rintro ⟨b, cur, g1, g2, g3, g4, g5, g6, g7⟩
    refine ⟨b, cur, g1, hM b g1 g2, g3, g4, g5, g6, fun i j x u hx hu => ?_⟩
    obtain ⟨c, hc, hr⟩ := g7 i j x u hx hu
    refine ⟨c, hc, ren_none (ρ := id) (List.eq_nil_iff_forall_not_mem.2 fun m hm => ?_) (hr.mono hX (.refl _ w) (fun _ h => h) fun _ _ => rfl)⟩
    have := mem_namesL.2 ⟨x, List.mem_of_getElem? hx, names_cells hu m hm⟩
    rw [hn] at this; cases this
  | @ren T sz xs us he =>
    obtain ⟨e1, e2⟩ := renOL_ren he
    subst e1
    rw [renL_map] at hc
    obtain ⟨h1, h2, h3, h4, h5⟩ := hc
    rw [List.length_map] at h3
    refine ⟨h1, h2, h3, fun x hx => ?_, ?_⟩
    · obtain ⟨k1, k2⟩ := h4 _ (List.mem_map.2 ⟨x, hx, rfl⟩)
      rw [renL_cells] at k1 k2
      rw [List.length_map] at k1
      exact ⟨k1, fun u hu => by rw [← one_ren]; exact k2 _ (List.mem_map.2 ⟨u, hu, rfl⟩)⟩
    · rcases h5 with ⟨k1, k2, k3⟩ | ⟨b, cur, g1, g2, g3, g4, g5, g6, g7⟩
      · exact .inl ⟨k1, by simpa using k2, k3⟩
      · rw [List.length_map] at g5
        refine .inr ⟨b, cur, g1, hM b g1 g2, g3, g4, g5, g6, fun i j x u hx hu => ?_⟩
        obtain ⟨c, hc, hr⟩ := g7 i j (x.ren (nm ns)) (u.ren (nm ns)) (by simp [hx]) (by rw [renL_cells]; simp [hu])
        exact ⟨c, hc, Rep.ren (ρ := nm ns) (fun n hn => hA n (e2 n (mem_namesL.2 ⟨x, List.mem_of_getElem? hx, names_cells hu n hn⟩))) (hr.mono hX (.refl _ w) (fun _ h => h) fun _ _ => rfl)⟩
  | map hn =>
    obtain ⟨b, ents, clock, g1, g2, g3, g4, g5⟩ := hc
    exact ⟨b, ents, clock, g1, hM b g1 g2, g3, g4, fun i k v e hk he => ⟨(g5 i k v e hk he).1.mono hX (.refl _ w), ren_none (ρ := id) (hn _ (List.mem_of_getElem? hk)) ((g5 i k v e hk he).2.mono hX (.refl _ w) (fun _ h => h) fun _ _ => rfl)⟩⟩
  | sit => obtain ⟨h0, b, g1, g2, g3⟩ := hc; exact ⟨h0, b, g1, hM b g1 g2, g3⟩
theorem BlkAt.ren_on {ns : List Nat} {X X' : Nat → Prop} {b c : Blk} {pl : Pl} {φc : Nat → Pl} (hX : ∀ b, b < w.heap.size → X' b → X b) (h : RenB ns b c) (hA : ∀ n, n < ns.length → A' n → A (nm ns n) ∧ φ (nm ns n) = φc n) (hM : ∀ b, pl.blk = some b → M b → M' b) (hb : BlkAt X M A' φc w pl b) : BlkAt X' M' A φ w pl c := by
  cases h with
  | same hn =>
    obtain ⟨h1, h2, h3, h4, h5⟩ := hb
    refine ⟨h1, h2, h3, h4, h5.imp id ?_⟩
    rintro ⟨b, cur, g1, g2, g3, g4, g5, g6, g7⟩
    refine ⟨b, cur, g1, hM b g1 g2, g3, g4, g5, g6, fun i j x u hx hu => ?_⟩
    obtain ⟨c, hc, hr⟩ := g7 i j x u hx hu
    refine ⟨c, hc, ren_none (ρ := id) (List.eq_nil_iff_forall_not_mem.2 fun m hm => ?_) (hr.mono hX (.refl _ w) (fun _ h => h) fun _ _ => rfl)⟩
    have := mem_namesL.2 ⟨x, List.mem_of_getElem? hx, names_cells hu m hm⟩
    rw [hn] at this; cases this
  | @ren T sz xs us he =>
    obtain ⟨e1, e2⟩ := renOL_ren he
    subst e1
    rw [renL_map]
    obtain ⟨h1, h2, h3, h4, h5⟩ := hb
    refine ⟨h1, h2, by simpa using h3, fun x hx => ?_, ?_⟩
    · obtain ⟨y, hy, rfl⟩ := List.mem_map.1 hx
      obtain ⟨k1, k2⟩ := h4 y hy
      rw [renL_cells]
      refine ⟨by simpa using k1, fun u hu => ?_⟩
      obtain ⟨z, hz, rfl⟩ := List.mem_map.1 hu
      rw [one_ren]; exact k2 z hz
    · rcases h5 with ⟨k1, k2, k3⟩ | ⟨b, cur, g1, g2, g3, g4, g5, g6, g7⟩
      · exact .inl ⟨k1, by simpa using k2, k3⟩
      · refine .inr ⟨b, cur, g1, hM b g1 g2, g3, g4, by simpa using g5, g6, fun i j x u hx hu => ?_⟩
        rw [List.getElem?_map, Option.map_eq_some_iff] at hx
        obtain ⟨y, hy, rfl⟩ := hx
        rw [renL_cells, List.getElem?_map, Option.map_eq_some_iff] at hu
        obtain ⟨z, hz, rfl⟩ := hu
        obtain ⟨c, hc, hr⟩ := g7 i j y z hy hz
        exact ⟨c, hc, (hr.mono hX (.refl _ w) (fun _ h => h) fun _ _ => rfl).unren (ρ := nm ns) fun n hn ha => hA n (e2 n (mem_namesL.2 ⟨y, List.mem_of_getElem? hy, names_cells hz n hn⟩)) ha⟩
  | map hn =>
    obtain ⟨b, ents, clock, g1, g2, g3, g4, g5⟩ := hb
    exact ⟨b, ents, clock, g1, hM b g1 g2, g3, g4, fun i k v e hk he => ⟨(g5 i k v e hk he).1.mono hX (.refl _ w), ren_none (ρ := id) (hn _ (List.mem_of_getElem? hk)) ((g5 i k v e hk he).2.mono hX (.refl _ w) (fun _ h => h) fun _ _ => rfl)⟩⟩
  | sit => obtain ⟨h0, b, g1, g2, g3⟩ := hb; exact ⟨h0, b, g1, hM b g1 g2, g3⟩
/-- What a row wants of the names it speaks of. -/
theorem blk_some {X : Nat → Prop} {pl : Pl} {k : Blk} {b : Nat} (h : BlkAt X M A φ w pl k) (hb : pl.blk = some b) : M b := by
  cases k with
  | els T sz xs =>
    obtain ⟨_, _, _, _, h1 | ⟨b', cur, h1, h2, _⟩⟩ := h
    · rw [hb] at h1; cases h1.1
    · rw [hb] at h1; cases h1; exact h2
  | map es => obtain ⟨b', _, _, h1, h2, _⟩ := h; rw [hb] at h1; cases h1; exact h2
  | sit s pos => obtain ⟨_, b', h1, h2, _⟩ := h; rw [hb] at h1; cases h1; exact h2

/-! ### A function's beginning and end -/
/-- The names' rows, from n on. -/
def rowsFrom : List Blk → Nat → List (Nat × Option Blk)
  | [], _ => []
  | b :: r, n => (n, some b) :: rowsFrom r (n + 1)
theorem lk_rows : ∀ (l : List Blk) (n t : Nat), lk (rowsFrom l n) t = if n ≤ t then (l[t - n]?).map some else none
  | [], n, t => by simp [rowsFrom, lk]
  | v :: r, n, t => by
    rw [rowsFrom, lk_put, lk_rows r (n + 1) t]
    by_cases h : n = t
    · subst h; simp
    · rw [if_neg h]
      by_cases h2 : n + 1 ≤ t
      · rw [if_pos h2, if_pos (by omega)]
        rw [show t - n = (t - (n + 1)) + 1 from by omega]
        simp
      · rw [if_neg h2, if_neg (by omega)]
def okNames (ms : List Nat) (k nx : Nat) : Bool := ((List.range k).all fun n => match nth ms n with
    | some m => Nat.beq m n
    | none => false) && (ms.all fun m => Nat.blt m nx) && (List.range ms.length).all fun i => (List.range ms.length).all fun j => Nat.beq i j || match nth ms i, nth ms j with
    | some x, some y => !Nat.beq x y
    | _, _ => false
inductive Pub (s : S) : List Nat → List (Option Blk) → Prop
  | nil : Pub s [] []
  | no {m ms l} : Pub s ms l → Pub s (m :: ms) (none :: l)
  | on {m ms b l} : s.blk m = some b → Pub s ms l → Pub s (m :: ms) (some b :: l)
theorem Pub.len {ms : List Nat} {l : List (Option Blk)} (h : Pub s ms l) : ms.length = l.length := by
  induction h with
  | nil => rfl
  | no _ ih => simp [ih]
  | on _ _ ih => simp [ih]
theorem Pub.at {ms : List Nat} {l : List (Option Blk)} (h : Pub s ms l) : ∀ (i : Nat) b, l[i]? = some (some b) → ∃ m, ms[i]? = some m ∧ s.blk m = some b := by
  induction h with
  | nil => intro i b h; simp at h
  | no _ ih =>
    intro i b h
    rcases i with _ | i
    · simp at h
    · exact ih i b (by simpa using h)
  | on h1 _ ih =>
    intro i b h
    rcases i with _ | i
    · simp at h; subst h; exact ⟨_, rfl, h1⟩
    · exact ih i b (by simpa using h)
/-- What is published: the rows under the names of ms, and what is given. -/
structure MEnds (tb : List Ty) (rs : List ResultVar) (k : Nat) (r : V) (st' : List (Option Blk)) (s : S) : Prop where
  ex : ∃ ms vs us, okNames ms k s.nx = true ∧ resVs tb s rs = some vs ∧ renO ms r = some (pack vs) ∧ RenOs ms st' us ∧ Pub s ms us
def MEnd (tb : List Ty) (rs : List ResultVar) (k : Nat) (r : V) (st' : List (Option Blk)) : Exit → S → Prop
  | .normal, s | .ret, s => MEnds tb rs k r st' s
  | _, _ => False
theorem okNames_of {ms : List Nat} {k nx : Nat} (h : okNames ms k nx = true) : (∀ n, n < k → n < ms.length ∧ nm ms n = n) ∧ (∀ n, n < ms.length → nm ms n < nx) ∧ ∀ i j, i < ms.length → j < ms.length → nm ms i = nm ms j → i = j := by
  unfold okNames at h
  simp only [Bool.and_eq_true] at h
  obtain ⟨⟨h1, h2⟩, h3⟩ := h
  refine ⟨fun n hn => ?_, fun n hn => ?_, fun i j hi hj e => ?_⟩
  · have := List.all_eq_true.1 h1 n (List.mem_range.2 hn)
    cases hm : nth ms n with
    | none => rw [hm] at this; cases this
    | some m =>
      rw [hm] at this
      obtain ⟨g1, g2⟩ := nm_of hm
      exact ⟨g2, by rw [g1]; exact Nat.eq_of_beq_eq_true this⟩
  · have e : nth ms n = some ms[n] := by rw [nth_eq]; simp [hn]
    rw [(nm_of e).1]
    simpa using List.all_eq_true.1 h2 _ (List.getElem_mem hn)
  · have := List.all_eq_true.1 (List.all_eq_true.1 h3 i (List.mem_range.2 hi)) j (List.mem_range.2 hj)
    have e1 : nth ms i = some ms[i] := by rw [nth_eq]; simp [hi]
    have e2 : nth ms j = some ms[j] := by rw [nth_eq]; simp [hj]
    rw [(nm_of e1).1, (nm_of e2).1] at e
    rw [e1, e2, Bool.or_eq_true] at this
    rcases this with h | h
    · exact Nat.eq_of_beq_eq_true h
    · simp [e] at h
theorem mcallsG_of {g : Glob} {f : FuncId} {fn : Func} {c : Code} {args : List V} {st : List Blk} {r : V} {st' : List (Option Blk)} (htb : TbOk P tb) (hf : P.funcs[f]? = some fn) (hb : fn.body = some c) (hn : Nat.ble args.length fn.ntmps = true)
    (h : ∀ (bl : Nat → Prop) (pl : Nat → Pl), AWp P ⟨⟨bl, g⟩, st.length, pl⟩ c (MEnd tb fn.results.toList st.length r st') ⟨argTm args 0, rowsFrom st 0, st.length, fn.ntmps⟩) : MCallsG P g f args st r st' := fun N M φ w vs hrow hl hv => by
  have hnt : args.length ≤ fn.ntmps := Nat.le_of_ble_eq_true hn
  have eb : ∀ n, S.blk ⟨argTm args 0, rowsFrom st 0, st.length, fn.ntmps⟩ n = st[n]? := fun n => by
    have e := lk_rows st 0 n
    rw [if_pos (Nat.zero_le _), Nat.sub_zero] at e
    unfold S.blk
    rw [e]
    cases st[n]? <;> rfl
  have em : ∀ n k, st[n]? = some k → (st.map some)[n]? = some (some k) := fun n k h => by rw [List.getElem?_map, h]; rfl
  refine calls_of_wp hf hb (wp_mono (h N φ M φ _ w ⟨fun t v ht => ?_, ?_, fun n k hk => ?_, fun n n' k k' b h1 h2 => ?_, hrow.lim, hrow.dis, rfl, fun n hn => ⟨hn, rfl⟩, hrow.gl⟩) ?_)
  · change lk (argTm args 0) t = some v at ht
    rw [lk_arg, if_pos (Nat.zero_le _), Nat.sub_zero] at ht
    have hlt : t < args.length := (List.getElem?_eq_some_iff.1 ht).1
    refine ⟨Nat.lt_of_lt_of_le hlt hnt, ?_⟩
    have hvt : vs[t]? = some vs[t] := by simp [show t < vs.size by omega]
    have e : (vs ++ Array.replicate (fn.ntmps - vs.size) undef).getD t undef = vs[t]'(by omega) := by
      rw [Array.getD_eq_getD_getElem?, Array.getElem?_append_left (by omega), hvt]; rfl
    rw [e]
    exact hv t v _ ht hvt
  · simp; omega
  · rw [eb] at hk
    exact hrow.st n k (em n k hk)
  · rw [eb] at h1 h2
    exact hrow.inj n n' k k' b (em _ _ h1) (em _ _ h2)
  · rintro e a' w' ⟨M', φ', s', h1, h2, h3, h4⟩
    have fin : MEnds tb fn.results.toList st.length r st' s' → a'.defers = [] ∧ ∃ v, (results fn a'.tmps).run P w' = .ok v w' ∧ ∃ x M' φ', Ending.returned v = .returned x ∧ Stays M w w' ∧ (∀ b, b < w.heap.size → M' b → M b) ∧ (∀ n, n < st.length → φ' n = φ n) ∧
        RowsAt g N M' (· < st'.length) φ' st' w' ∧ Rep (fun b => M' b ∨ N b) (· < st'.length) φ' w' r x := by
      rintro ⟨ms, ws, us, g0, g1, g2, g3, g4⟩
      obtain ⟨o1, o2, o3⟩ := okNames_of g0
      have hlen : ms.length = st'.length := g4.len.trans g3.len.symm
      obtain ⟨xs, k1, k2, k3⟩ := run_resVs htb h3 g1
      have hrun : (results fn a'.tmps).run P w' = .ok (if h : xs.toArray.size = 1 then xs.toArray[0] else .tuple xs.toArray) w' := by
        unfold results
        rw [Array.mapM_eq_mapM_toList]
        have e : ∀ (m : Sem (List Value)), m.run P w' = .ok xs w' → (List.toArray <$> m).run P w' = .ok xs.toArray w' := fun m hm => by
          have : (List.toArray <$> m) = (m >>= fun l => pure l.toArray) := rfl
          rw [this]
          simp only [Sem.run_bind, hm, Result.andThen_ok, Sem.run_pure]
        simp only [Sem.run_bind]
        erw [e _ k1]
        simp only [Result.andThen_ok, Sem.run_pure]
      obtain ⟨r1, r2⟩ := renO_ren g2
      have hpin : ∀ n, n < st.length → φ' (nm ms n) = φ n := fun n hn => by
        rw [(o1 n hn).2]; exact (h3.pin n hn).2
      have hrep : Rep (fun b => M' b ∨ N b) (· < s'.nx) φ' w' (pack ws) (if h : xs.toArray.size = 1 then xs.toArray[0] else .tuple xs.toArray) := by
        match ws, xs, k2, k3 with
        | [u], [x], _, hfz => exact hfz 0 u x rfl rfl
        | [], [], _, _ => exact .tup rfl (fun i v c h => by simp at h)
        | u1 :: u2 :: us, x1 :: x2 :: xs, k2, hfz =>
          have : ¬ (x1 :: x2 :: xs).toArray.size = 1 := by simp
          rw [dif_neg this]
          exact .tup (by simpa using k2) (fun i v c hv hc => hfz i v c hv (by simpa using hc))
        | [], _ :: _, k2, _ => simp at k2
        | _ :: _, [], k2, _ => simp at k2
        | [_], _ :: _ :: _, k2, _ => simp at k2
        | _ :: _ :: _, [_], k2, _ => simp at k2
      refine ⟨h3.df, _, hrun, _, M', fun n => φ' (nm ms n), rfl, h1, h2, hpin, ⟨fun n k hk => ?_, fun n n' k k' b e1 e2 e3 e4 => ?_, h3.lim, h3.dis, h3.gl⟩, ?_⟩
      · obtain ⟨c, hc, hren⟩ := g3.forth n k hk
        obtain ⟨m, hm, hbk⟩ := g4.at n c hc
        have hnl : n < st'.length := (List.getElem?_eq_some_iff.1 hk).1
        have hnm : nm ms n = m := (nm_of (by rw [nth_eq]; exact hm)).1
        refine ⟨hnl, ?_⟩
        rw [hnm]
        exact BlkAt.ren_back (fun _ _ h => h) hren (fun n hn => ⟨by rw [← hlen]; exact hn, rfl⟩) (fun _ _ h => h) (h3.st m c hbk).2
      · obtain ⟨c, hc, _⟩ := g3.forth n k e1
        obtain ⟨c', hc', _⟩ := g3.forth n' k' e2
        obtain ⟨m, hm, hbk⟩ := g4.at n c hc
        obtain ⟨m', hm', hbk'⟩ := g4.at n' c' hc'
        have hnm : nm ms n = m := (nm_of (by rw [nth_eq]; exact hm)).1
        have hnm' : nm ms n' = m' := (nm_of (by rw [nth_eq]; exact hm')).1
        refine o3 n n' (by rw [hlen]; exact (List.getElem?_eq_some_iff.1 e1).1) (by rw [hlen]; exact (List.getElem?_eq_some_iff.1 e2).1) ?_
        rw [hnm] at e3 ⊢
        rw [hnm'] at e4 ⊢
        exact h3.inj m m' c c' b hbk hbk' e3 e4
      · rw [r1] at hrep
        exact Rep.ren (ρ := nm ms) (fun n hn => ⟨by rw [← hlen]; exact r2 n hn, rfl⟩) hrep
    cases e with
    | normal => exact fin h4
    | ret => exact fin h4
    | _ => exact h4.elim

/-! ### Such a call -/
def zipO : List Nat → List (Option Blk) → Option (List (Nat × Option Blk))
  | [], [] => some []
  | n :: r, b :: q => match zipO r q with
    | some l => some ((n, b) :: l)
    | none => none
  | _, _ => none
def zipB : List Nat → List Blk → List (Nat × Blk)
  | n :: r, b :: q => (n, b) :: zipB r q
  | _, _ => []
def distinctB : List Nat → Bool
  | [] => true
  | n :: r => (r.all fun m => !Nat.beq n m) && distinctB r
theorem zipB_at : ∀ {ns : List Nat} {bs : List Blk} (i : Nat) {n : Nat} {b : Blk}, ns[i]? = some n → bs[i]? = some b → (n, b) ∈ zipB ns bs
  | [], _, i, n, b, h, _ => by simp at h
  | _ :: _, [], i, n, b, _, h => by simp at h
  | m :: r, c :: q, i, n, b, h, k => by
    rcases i with _ | i
    · simp at h k; subst h k; simp [zipB]
    · simp only [zipB, List.mem_cons]; exact .inr (zipB_at i (by simpa using h) (by simpa using k))
theorem distinct_inj : ∀ {ns : List Nat}, distinctB ns = true → ∀ i j, i < ns.length → j < ns.length → nm ns i = nm ns j → i = j
  | [], _, i, j, h, _, _ => by simp at h
  | n :: r, h, i, j, hi, hj, e => by
    rw [distinctB, Bool.and_eq_true] at h
    have h1 : ∀ k, k < r.length → nm (n :: r) (k + 1) = nm r k := fun k _ => rfl
    have h2 : ∀ k, k < r.length → n ≠ nm r k := fun k hk e => by
      have e1 : nth r k = some r[k] := by rw [nth_eq]; simp [hk]
      have := List.all_eq_true.1 h.1 _ (List.getElem_mem hk)
      rw [(nm_of e1).1] at e
      rw [e] at this
      simp at this
    simp only [List.length_cons] at hi hj
    rcases i with _ | i <;> rcases j with _ | j
    · rfl
    · exact absurd e (h2 j (by omega))
    · exact absurd e.symm (h2 i (by omega))
    · rw [distinct_inj h.2 i j (by omega) (by omega) e]
theorem zipO_lk : ∀ {ns : List Nat} {us : List (Option Blk)} {up : List (Nat × Option Blk)}, zipO ns us = some up → distinctB ns = true → ns.length = us.length ∧ (∀ i, i < ns.length → lk up (nm ns i) = us[i]?) ∧ ∀ m, (∀ i, i < ns.length → nm ns i ≠ m) → lk up m = none
  | [], [], up, h, _ => by rw [zipO] at h; cases h; exact ⟨rfl, fun i h => by simp at h, fun m _ => rfl⟩
  | [], _ :: _, up, h, _ => by simp [zipO] at h
  | _ :: _, [], up, h, _ => by simp [zipO] at h
  | n :: r, b :: q, up, h, hd => by
    rw [zipO] at h
    split at h <;> cases h
    rename_i l hl
    have hd0 := hd
    rw [distinctB, Bool.and_eq_true] at hd
    obtain ⟨h1, h2, h3⟩ := zipO_lk hl hd.2
    refine ⟨by simp [h1], fun i hi => ?_, fun m hm => ?_⟩
    · rw [lk_put]
      rcases i with _ | i
      · have : nm (n :: r) 0 = n := rfl
        rw [this, if_pos rfl]; rfl
      · have hi' : i < r.length := by simpa using hi
        have : nm (n :: r) (i + 1) = nm r i := rfl
        rw [this, if_neg (fun e => ?_), h2 i hi']
        · simp
        · have := distinct_inj hd0 0 (i + 1) (by simp) hi e
          omega
    · have hm0 : ¬ n = m := hm 0 (by simp)
      rw [lk_put, if_neg hm0, h3 m fun i hi => hm (i + 1) (by simpa using hi)]
theorem law_mcall_gen {args vs : List V} {st bs : List Blk} {r r2 : V} {st' us : List (Option Blk)} {up : List (Nat × Option Blk)} {f : FuncId} {fp : Fp} (ns news : List Nat)
    (hop : ∀ s M A φ a w, Holds fp s → Rel N M A φ s a w → ∃ gs : Array Value, (execOp a.eval o).run P w = .ok (.enter f gs) w ∧ vs.length = gs.size ∧ ∀ (i : Nat) v x, vs[i]? = some v → gs[i]? = some x → Rep (fun b => M b ∨ N b) A φ w v x)
    (hns : ∀ (i : Nat) n b, ns[i]? = some n → bs[i]? = some b → (n, b) ∈ fp.ns)
    (hargs : renOL ns args = some vs) (hst : RenBs ns st bs) (hlen : ns.length = st.length) (hdis : distinctB (ns ++ news) = true) (h : MCallsG P N.g f args st r st') (hlen' : (ns ++ news).length = st'.length)
    (hr2 : renO (ns ++ news) r = some r2) (hus : RenOs (ns ++ news) st' us) (hup : zipO (ns ++ news) us = some up) : OpLaw P N o fp r2 up news := fun s M A φ a w hh hr hν hd => by
  obtain ⟨gs, hrun, hgl, hgv⟩ := hop s M A φ a w hh hr
  unfold Oper.wp
  rw [hrun]
  obtain ⟨a1, a2⟩ := renOL_ren hargs
  obtain ⟨r21, r22⟩ := renO_ren hr2
  rw [renL_map] at a1
  have hnm : ∀ n, n < ns.length → nm (ns ++ news) n = nm ns n := fun n hn => by
    unfold nm; rw [nth_eq, nth_eq, List.getElem?_append_left hn]
  have hnew : ∀ n, ns.length ≤ n → n < (ns ++ news).length → nm (ns ++ news) n ∈ news := fun n h1 h2 => by
    have e : nth (ns ++ news) n = some ((ns ++ news)[n]) := by rw [nth_eq]; simp [h2]
    rw [(nm_of e).1, List.getElem_append_right h1]
    exact List.getElem_mem _
  have hof : ∀ m, m ∈ news → ∃ n, ns.length ≤ n ∧ n < (ns ++ news).length ∧ nm (ns ++ news) n = m := fun m hm => by
    obtain ⟨i, hi, rfl⟩ := List.getElem_of_mem hm
    refine ⟨ns.length + i, by omega, by simp; omega, ?_⟩
    have e : nth (ns ++ news) (ns.length + i) = some news[i] := by rw [nth_eq, List.getElem?_append_right (by omega)]; simp [hi]
    exact (nm_of e).1
  have hinj := distinct_inj hdis
  have hlt : ∀ n, n < ns.length → n < (ns ++ news).length := fun n hn => by simp; omega
  have hrow : ∀ n k, st[n]? = some k → ∃ c, s.blk (nm ns n) = some c ∧ RenB ns k c := fun n k hk => by
    obtain ⟨c, hc, hren⟩ := hst.at n k hk
    have hn : n < ns.length := by rw [hlen]; exact (List.getElem?_eq_some_iff.1 hk).1
    have e : ns[n]? = some ns[n] := by simp [hn]
    have := hh.2 _ (hns n _ _ e hc)
    refine ⟨c, ?_, hren⟩
    have e2 : nth ns n = some ns[n] := by rw [nth_eq]; exact e
    rw [(nm_of e2).1]; exact this
  have hAns : ∀ n, n < ns.length → A (nm ns n) := fun n hn => by
    obtain ⟨c, hc, _⟩ := hrow n _ (List.getElem?_eq_getElem (by omega))
    exact (hr.st _ _ hc).1
  let H : Nat → Prop := fun b => ∃ n, n < ns.length ∧ (φ (nm ns n)).blk = some b
  have hHM : ∀ b, H b → M b := fun b ⟨n, hn, hb⟩ => by
    obtain ⟨c, hc, _⟩ := hrow n _ (List.getElem?_eq_getElem (by omega))
    exact hr.lt_blk hc hb
  have hX : ∀ b, (H b ∨ ((M b ∧ ¬ H b) ∨ N b)) → M b ∨ N b := fun b hb => by
    rcases hb with hb | hb | hb
    · exact .inl (hHM b hb)
    · exact .inl hb.1
    · exact .inr hb
  have rows : RowsAt N.g (fun b => (M b ∧ ¬ H b) ∨ N b) H (· < st.length) (fun n => φ (nm ns n)) (st.map some) w := by
    refine ⟨fun n k hk => ?_, fun n n' k k' b e1 e2 e3 e4 => ?_, fun b hb => hr.lim b (hX b hb), fun b hb hn => ?_, hr.gl.sub hX⟩
    · have hk : st[n]? = some k := by simpa using hk
      have hn : n < ns.length := by rw [hlen]; exact (List.getElem?_eq_some_iff.1 hk).1
      obtain ⟨c, hc, hren⟩ := hrow n k hk
      exact ⟨by rw [← hlen]; exact hn, BlkAt.ren_back (fun b _ h => hX b h) hren (fun m hm => ⟨by rw [← hlen]; exact hm, rfl⟩) (fun b hb _ => ⟨n, hn, hb⟩) (hr.st _ _ hc).2⟩
    · have e1 : st[n]? = some k := by simpa using e1
      have e2 : st[n']? = some k' := by simpa using e2
      obtain ⟨c, hc, _⟩ := hrow n k e1
      obtain ⟨c', hc', _⟩ := hrow n' k' e2
      have h1 : n < ns.length := by rw [hlen]; exact (List.getElem?_eq_some_iff.1 e1).1
      have h2 : n' < ns.length := by rw [hlen]; exact (List.getElem?_eq_some_iff.1 e2).1
      exact hinj n n' (hlt n h1) (hlt n' h2) (by rw [hnm n h1, hnm n' h2]; exact hr.inj _ _ _ _ b hc hc' e3 e4)
    · rcases hn with hn | hn
      · exact hn.2 hb
      · exact hr.dis b (hHM b hb) hn
  refine Calls.mono (h (fun b => (M b ∧ ¬ H b) ∨ N b) H (fun n => φ (nm ns n)) w gs rows (by rw [← hgl, a1]; simp) fun i v x hv hx => ?_) ?_
  · have hvs : vs[i]? = some (v.ren (nm ns)) := by rw [a1]; simp [hv]
    refine Rep.ren (ρ := nm ns) (fun n hn => ⟨?_, rfl⟩) ((hgv i _ x hvs hx).mono (fun b _ h => hX b h) (.refl _ w) (fun _ h => h) fun _ _ => rfl)
    rw [← hlen]
    exact a2 n (mem_namesL.2 ⟨v, List.mem_of_getElem? hv, hn⟩)
  · rintro e w' ⟨x, M', φ', rfl, hs, hM, hpin, hrows, hrep⟩
    show ∃ _ _, _
    let M2 : Nat → Prop := fun b => M' b ∨ (M b ∧ ¬ H b)
    let φ2 : Nat → Pl := fun m => open Classical in if h : ∃ n, n < (ns ++ news).length ∧ nm (ns ++ news) n = m then φ' h.choose else φ m
    have hφ2 : ∀ n, n < (ns ++ news).length → φ2 (nm (ns ++ news) n) = φ' n := fun n hn => by
      have h : ∃ n', n' < (ns ++ news).length ∧ nm (ns ++ news) n' = nm (ns ++ news) n := ⟨n, hn, rfl⟩
      show dite _ _ _ = _
      rw [dif_pos h, hinj _ _ h.choose_spec.1 hn h.choose_spec.2]
    have hφA : ∀ m, A m → φ2 m = φ m := fun m hm => by
      by_cases h : ∃ n, n < (ns ++ news).length ∧ nm (ns ++ news) n = m
      · obtain ⟨n, hn, rfl⟩ := h
        by_cases hk : n < ns.length
        · rw [hφ2 n hn, hpin n (by rw [← hlen]; exact hk), hnm n hk]
        · exact absurd hm (hν _ (hnew n (by omega) hn))
      · show dite _ _ _ = _
        rw [dif_neg h]
    have hsX : Stays (fun b => M b ∨ N b) w w' := ⟨hs.os, hs.tape, hs.output, hs.size, fun b hb hm => hs.block b hb fun h => hm (.inl (hHM b h))⟩
    have hsM : Stays M w w' := ⟨hs.os, hs.tape, hs.output, hs.size, fun b hb hm => hs.block b hb fun h => hm (hHM b h)⟩
    have hM2 : ∀ b, b < w.heap.size → M2 b → M b := fun b hb h => h.elim (fun h => hHM b (hM b hb h)) fun h => h.1
    have hX2 : ∀ b, b < w.heap.size → (M2 b ∨ N b) → M b ∨ N b := fun b hb h => h.imp (hM2 b hb) id
    have hA2 : ∀ n, A n → A n ∨ n ∈ news := fun n h => .inl h
    obtain ⟨z1, z2, z3⟩ := zipO_lk hup hdis
    have hup2 : ∀ n, n < st'.length → A (nm (ns ++ news) n) ∨ nm (ns ++ news) n ∈ news := fun n hn => by
      by_cases hk : n < ns.length
      · exact .inl (by rw [hnm n hk]; exact hAns n hk)
      · exact .inr (hnew n (by omega) (by omega))
    have eb : ∀ m, (s.eff none .und up s.nx).blk m = match lk up m with
        | some q => q
        | none => s.blk m := fun m => by
      unfold S.blk S.eff
      simp only [lk_app]
      cases lk up m <;> rfl
    have ec : ∀ m k, (s.eff none .und up s.nx).blk m = some k → (∃ n k0, n < (ns ++ news).length ∧ nm (ns ++ news) n = m ∧ st'[n]? = some (some k0) ∧ RenB (ns ++ news) k0 k) ∨ ((∀ n, n < (ns ++ news).length → nm (ns ++ news) n ≠ m) ∧ s.blk m = some k) := fun m k hk => by
      rw [eb] at hk
      by_cases h : ∃ n, n < (ns ++ news).length ∧ nm (ns ++ news) n = m
      · obtain ⟨n, hn, rfl⟩ := h
        rw [z2 n hn] at hk
        have hul : n < us.length := by omega
        rw [List.getElem?_eq_getElem hul] at hk
        simp only at hk
        obtain ⟨k0, h1, h2⟩ := hus.back n k (by rw [List.getElem?_eq_getElem hul, hk])
        exact .inl ⟨n, k0, hn, rfl, h1, h2⟩
      · have h : ∀ n, n < (ns ++ news).length → nm (ns ++ news) n ≠ m := fun n hn e => h ⟨n, hn, e⟩
        rw [z3 m h] at hk
        exact .inr ⟨h, hk⟩
    have old : ∀ m k, (∀ n, n < (ns ++ news).length → nm (ns ++ news) n ≠ m) → s.blk m = some k → ∀ b, (φ m).blk = some b → ¬ H b ∧ M b := fun m k hm hk b hb => by
      refine ⟨fun ⟨n, hn, e⟩ => ?_, hr.lt_blk hk hb⟩
      obtain ⟨c, hc, _⟩ := hrow n _ (List.getElem?_eq_getElem (by omega))
      exact hm n (hlt n hn) (by rw [hnm n hn]; exact hr.inj _ _ _ _ b hc hk e hb)
    have hgrow : Rel N M2 (fun n => A n ∨ n ∈ news) φ2 (s.eff none .und up s.nx) a w' := by
      refine ⟨fun t u ht => ?_, hr.nt, fun m k hk => ?_, fun m m' k k' b e1 e2 e3 e4 => ?_, fun b hb => ?_, fun b hb hn => ?_, hr.df, fun n hn => ⟨.inl (hr.pin n hn).1, (hφA n (hr.pin n hn).1).trans (hr.pin n hn).2⟩, hr.gl.stays hsX hX2⟩
      · obtain ⟨g1, g2⟩ := hr.tm t u ht
        exact ⟨g1, g2.mono hX2 hsX hA2 hφA⟩
      · rcases ec m k hk with ⟨n, k0, hn, rfl, h1, h2⟩ | ⟨h1, h2⟩
        · obtain ⟨g1, g2⟩ := hrows.st n k0 h1
          refine ⟨hup2 n (by omega), ?_⟩
          rw [hφ2 n hn]
          exact BlkAt.ren_on (fun b _ h => by
            rcases h with (h | h) | h
            · exact .inl h
            · exact .inr (.inl h)
            · exact .inr (.inr h)) h2 (fun m hm ha => ⟨hup2 m (by omega), hφ2 m hm⟩) (fun b _ h => .inl h) g2
        · obtain ⟨g1, g2⟩ := hr.st m k h2
          refine ⟨.inl g1, ?_⟩
          rw [hφA m g1]
          have g3 : ∀ b, (φ m).blk = some b → w'.heap[b]? = w.heap[b]? := fun b hb => hs.block b (hr.lim b (.inl (hr.lt_blk h2 hb))) (old m k h1 h2 b hb).1
          have g4 := g2.mono (M' := M) hX2 hsX hA2 hφA (fun _ h => h) g3
          cases k with
          | els T sz xs =>
            obtain ⟨q1, q2, q3, q4, q5⟩ := g4
            refine ⟨q1, q2, q3, q4, q5.imp id ?_⟩
            rintro ⟨b, cur, p1, p2, p3⟩
            exact ⟨b, cur, p1, .inr ⟨p2, (old m _ h1 h2 b p1).1⟩, p3⟩
          | map es =>
            obtain ⟨b, ents, clock, p1, p2, p3⟩ := g4
            exact ⟨b, ents, clock, p1, .inr ⟨p2, (old m _ h1 h2 b p1).1⟩, p3⟩
          | sit q p =>
            obtain ⟨p0, b, p1, p2, p3⟩ := g4
            exact ⟨p0, b, p1, .inr ⟨p2, (old m _ h1 h2 b p1).1⟩, p3⟩
      · have far : ∀ n k0 m k, st'[n]? = some (some k0) → (∀ n, n < (ns ++ news).length → nm (ns ++ news) n ≠ m) → s.blk m = some k → (φ' n).blk = some b → (φ m).blk = some b → False := fun n k0 m k h1 h2 h3 h4 h5 => by
          have g1 := blk_some (hrows.st n k0 h1).2 h4
          obtain ⟨g2, g3⟩ := old m k h2 h3 b h5
          exact g2 (hM b (hr.lim b (.inl g3)) g1)
        rcases ec m k e1 with ⟨n, k0, hn, rfl, h1, h2⟩ | ⟨h1, h2⟩ <;> rcases ec m' k' e2 with ⟨n', k0', hn', rfl, h1', h2'⟩ | ⟨h1', h2'⟩
        · rw [hφ2 n hn] at e3
          rw [hφ2 n' hn'] at e4
          rw [hrows.inj n n' _ _ b h1 h1' e3 e4]
        · rw [hφ2 n hn] at e3
          rw [hφA m' (hr.st m' k' h2').1] at e4
          exact (far n k0 m' k' h1 h1' h2' e3 e4).elim
        · rw [hφ2 n' hn'] at e4
          rw [hφA m (hr.st m k h2).1] at e3
          exact (far n' k0' m k h1' h1 h2 e4 e3).elim
        · rw [hφA m (hr.st m k h2).1] at e3
          rw [hφA m' (hr.st m' k' h2').1] at e4
          exact hr.inj _ _ _ _ b h2 h2' e3 e4
      · rcases hb with (hb | hb) | hb
        · exact hrows.lim b (.inl hb)
        · exact Nat.lt_of_lt_of_le (hr.lim b (.inl hb.1)) hs.size
        · exact Nat.lt_of_lt_of_le (hr.lim b (.inr hb)) hs.size
      · rcases hb with hb | hb
        · exact hrows.dis b hb (.inr hn)
        · exact hr.dis b hb.1 hn
    have hv : Rep (fun b => M2 b ∨ N b) (fun n => A n ∨ n ∈ news) φ2 w' r2 x := by
      rw [r21]
      refine (hrep.mono (X' := fun b => M2 b ∨ N b) (fun b _ h => ?_) (.refl _ w') (fun _ h => h) (fun _ _ => rfl)).unren (ρ := nm (ns ++ news)) fun n hn ha => ⟨hup2 n ha, hφ2 n (by omega)⟩
      rcases h with (h | h) | h
      · exact .inl h
      · exact .inr (.inl h)
      · exact .inr (.inr h)
    refine ⟨M2, φ2, hsM, hM2, ?_⟩
    have h9 := rel_dst (nx := s.nx) hgrow hv hd
    refine h9.as (fun t => ?_) (fun n => rfl) rfl
    cases o.dst <;> rfl
theorem law_mcall {f : Nat} {xs : Array Operand} {ts : Array TypeId} {args vs : List V} {st bs : List Blk} {r r2 : V} {st' us : List (Option Blk)} {up : List (Nat × Option Blk)} (ns news : List Nat) (ho : o.op = .call { callee := .value (.func f), args := xs, argTypes := ts })
    (hc : ∀ (fs : Array Value) (w : World), (callFunc f fs).run P w = .ok (.enter f fs) w) (h : MCallsG P N.g f args st r st') (hargs : renOL ns args = some vs) (hl : vs.length = xs.size) (hst : RenBs ns st bs) (hlen : Nat.beq ns.length st.length = true) (hdis : distinctB (ns ++ news) = true) (hlen' : Nat.beq (ns ++ news).length st'.length = true)
    (hr2 : renO (ns ++ news) r = some r2) (hus : RenOs (ns ++ news) st' us) (hup : zipO (ns ++ news) us = some up) : OpLaw P N o ⟨tsOf xs.toList vs, zipB ns bs⟩ r2 up news :=
  law_mcall_gen ns news (fun s M A φ a w hh hr => ⟨_, run_call ho hc, by simpa using hl, fun i v x hv hx => by
    simp only [Array.getElem?_map, Option.map_eq_some_iff] at hx
    obtain ⟨p, hp, rfl⟩ := hx
    exact hr.ev (ts_at hh i p v (by simpa using hp) hv)⟩) (fun i n b hn hb => zipB_at i hn hb) hargs hst (Nat.eq_of_beq_eq_true hlen) hdis h (Nat.eq_of_beq_eq_true hlen') hr2 hus hup
theorem law_mcallv {f : Nat} {g : Operand} {xs : Array Operand} {ts : Array TypeId} {args vs fs bs' ws : List V} {st bs : List Blk} {r r2 : V} {st' us : List (Option Blk)} {up : List (Nat × Option Blk)} (ns news : List Nat) (ho : o.op = .call { callee := .value g, args := xs, argTypes := ts })
    (hc : ∀ (fs : Array Value) (w : World), (callFunc f fs).run P w = .ok (.enter f fs) w) (h : MCallsG P N.g f args st r st') (hargs : renOL ns args = some ws) (hws : ws = fs ++ vs ++ bs') (hl : vs.length = xs.size) (hst : RenBs ns st bs) (hlen : Nat.beq ns.length st.length = true) (hdis : distinctB (ns ++ news) = true) (hlen' : Nat.beq (ns ++ news).length st'.length = true)
    (hr2 : renO (ns ++ news) r = some r2) (hus : RenOs (ns ++ news) st' us) (hup : zipO (ns ++ news) us = some up) : OpLaw P N o ⟨(g, .fn (.func f) fs bs') :: tsOf xs.toList vs, zipB ns bs⟩ r2 up news :=
  law_mcall_gen ns news (fun s M A φ a w hh hr => by
    obtain ⟨cs, ds, g1, g2, g3, g4, g5⟩ := rep_fn (hr.ev hh.a)
    have hh' : Holds ⟨tsOf xs.toList vs, zipB ns bs⟩ s := ⟨fun p hp => hh.1 p (List.mem_cons_of_mem _ hp), hh.2⟩
    refine ⟨_, run_callv ho g1 hc, by rw [hws]; simp; omega, fun i v x hv hx => at_three (R := Rep (fun b => M b ∨ N b) A φ w) g2 (by simpa using hl) g4 (fun i v x hv hx => ?_) g5 i v x (by rw [← hws]; exact hv) hx⟩
    simp only [Array.getElem?_map, Option.map_eq_some_iff] at hx
    obtain ⟨p, hp, rfl⟩ := hx
    exact hr.ev (ts_at hh' i p v (by simpa using hp) hv)) (fun i n b hn hb => zipB_at i hn hb) hargs hst (Nat.eq_of_beq_eq_true hlen) hdis h (Nat.eq_of_beq_eq_true hlen') hr2 hus hup
end
section
variable {P : Program} {N : Env} {l r : List Oper} {o : Oper} {tm : List (Nat × V)} {st st2 : List (Nat × Option Blk)} {nx nx' nt : Nat} {tr : List Tr} {K : S → List Tr → Prop} {fp : Fp} {v : V} {up : List (Nat × Option Blk)} {news : List Nat}
def appO : List (Nat × Option Blk) → List (Nat × Option Blk) → Option (List (Nat × Option Blk))
  | [], s => some s
  | p :: r, s => match appO r s with
    | some q => some (p :: q)
    | none => none
theorem appO_eq : ∀ {u s q : List (Nat × Option Blk)}, appO u s = some q → q = u ++ s
  | [], s, q, h => by rw [appO] at h; cases h; rfl
  | p :: r, s, q, h => by
    rw [appO] at h
    split at h <;> cases h
    rename_i l hl
    rw [appO_eq hl]; rfl
def newsOk (nx nx' : Nat) (news : List Nat) : Bool := Nat.ble nx nx' && news.all fun n => Nat.ble nx n && Nat.blt n nx'
theorem news_of (h : newsOk nx nx' news = true) : nx ≤ nx' ∧ ∀ n ∈ news, nx ≤ n ∧ n < nx' := by
  unfold newsOk at h
  rw [Bool.and_eq_true] at h
  refine ⟨Nat.le_of_ble_eq_true h.1, fun n hn => ?_⟩
  have := List.all_eq_true.1 h.2 n hn
  rw [Bool.and_eq_true] at this
  exact ⟨Nat.le_of_ble_eq_true this.1, by simpa using this.2⟩
/-- A call that changes rows. -/
theorem r_m {d : Nat} (law : OpLaw P N o fp v up news) (nx' : Nat) (hn : newsOk nx nx' news = true) (hg : guardV l o ⟨tm, st, nx, nt⟩ = some true) (hd : o.dst = some d) (hlt : Nat.blt d nt = true) (hh : Holds fp ⟨tm, st, nx, nt⟩) (hst : appO up st = some st2) (k : ARun P N l K r ⟨(d, v) :: tm, st2, nx', nt⟩ (tr ++ [trOf l o fp up])) : ARun P N l K (o :: r) ⟨tm, st, nx, nt⟩ tr :=
  .on fp v up news nx' hg law hh (news_of hn) (fun d' h => by rw [hd] at h; cases h; exact blt_lt hlt) (by
    have e : S.eff ⟨tm, st, nx, nt⟩ o.dst v up nx' = ⟨(d, v) :: tm, st2, nx', nt⟩ := by rw [hd, appO_eq hst]; rfl
    rw [e]; exact k)
theorem r_m0 (law : OpLaw P N o fp v up news) (nx' : Nat) (hn : newsOk nx nx' news = true) (hg : guardV l o ⟨tm, st, nx, nt⟩ = some true) (hd : o.dst = none) (hh : Holds fp ⟨tm, st, nx, nt⟩) (hst : appO up st = some st2) (k : ARun P N l K r ⟨tm, st2, nx', nt⟩ (tr ++ [trOf l o fp up])) : ARun P N l K (o :: r) ⟨tm, st, nx, nt⟩ tr :=
  .on fp v up news nx' hg law hh (news_of hn) (fun d' h => by rw [hd] at h; cases h) (by
    have e : S.eff ⟨tm, st, nx, nt⟩ o.dst v up nx' = ⟨tm, st2, nx', nt⟩ := by rw [hd, appO_eq hst]; rfl
    rw [e]; exact k)
end
section
variable {P : Program} {N : Env} {tb : List Ty} {st : List Blk} {st' us : List (Option Blk)} {f : FuncId} {fn : Func} {c : Code} {rs : List ResultVar} {w : V} {nt : Nat} {s : S} {k : Nat}
theorem mfunG {gl : Glob} {args : List V} {tm : List (Nat × V)} {s0 : List (Nat × Option Blk)} {k : Nat} (htb : TbOk P tb) (hf : P.funcs[f]? = some fn) (hb : fn.body = some c) (hnt : fn.ntmps = nt) (hrs : fn.results = rs.toArray) (hn : Nat.ble args.length nt = true) (htm : argTm args 0 = tm) (hs0 : rowsFrom st 0 = s0) (hk : st.length = k) (h : ∀ (bl : Nat → Prop) (pl : Nat → Pl), AWp P ⟨⟨bl, gl⟩, k, pl⟩ c (MEnd tb rs k w st') ⟨tm, s0, k, nt⟩) : MCallsG P gl f args st w st' :=
  mcallsG_of htb hf hb (by rw [hnt]; exact hn) fun bl pl => by subst htm hs0 hk; rw [hnt, hrs]; exact h bl pl
theorem mfun {args : List V} {tm : List (Nat × V)} {s0 : List (Nat × Option Blk)} {k : Nat} (htb : TbOk P tb) (hf : P.funcs[f]? = some fn) (hb : fn.body = some c) (hnt : fn.ntmps = nt) (hrs : fn.results = rs.toArray) (hn : Nat.ble args.length nt = true) (htm : argTm args 0 = tm) (hs0 : rowsFrom st 0 = s0) (hk : st.length = k) (h : ∀ (b : Bg) (pl : Nat → Pl), AWp P ⟨b, k, pl⟩ c (MEnd tb rs k w st') ⟨tm, s0, k, nt⟩) : MCalls P f args st w st' :=
  fun g => mcallsG_of htb hf hb (by rw [hnt]; exact hn) fun bl pl => by subst htm hs0 hk; rw [hnt, hrs]; exact h ⟨bl, g⟩ pl
theorem mend_ret {vs : List V} (ms : List Nat) (h1 : okNames ms k s.nx = true) (h2 : resVs tb s rs = some vs) (h3 : renO ms w = some (pack vs)) (h4 : RenOs ms st' us) (h5 : Pub s ms us) : MEnd tb rs k w st' .ret s := ⟨ms, vs, us, h1, h2, h3, h4, h5⟩
theorem mend_nor {vs : List V} (ms : List Nat) (h1 : okNames ms k s.nx = true) (h2 : resVs tb s rs = some vs) (h3 : renO ms w = some (pack vs)) (h4 : RenOs ms st' us) (h5 : Pub s ms us) : MEnd tb rs k w st' .normal s := ⟨ms, vs, us, h1, h2, h3, h4, h5⟩
end
end Go.Proofs.YtefcfickggnmjaaDoor.Abs
