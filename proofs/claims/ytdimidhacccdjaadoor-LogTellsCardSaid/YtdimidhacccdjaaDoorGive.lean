/- A call that is handed rows for good: they are the walk's own no longer; what it gives may lie in them. -/
import Derived.Test.YtdimidhacccdjaaDoorAbsU
namespace Go.Proofs.YtdimidhacccdjaaDoor.Abs
open Go.RowKit Mem Facts
section
variable {P : Program} {N : Env} {M A : Nat → Prop} {φ : Nat → Pl} {s : S} {a : Act} {w : World} {o : Oper}
theorem BlkAt.less {X X' M M' : Nat → Prop} {pl : Pl} {k : Blk} (hX : ∀ b, X' b → X b) (hM : ∀ b, pl.blk = some b → M b → M' b) (h : BlkAt X M A φ w pl k) : BlkAt X' M' A φ w pl k := by
  have mono : ∀ {v : V} {x : Value}, Rep X A φ w v x → Rep X' A φ w v x := fun h => h.mono (fun b _ hb => hX b hb) (.refl _ w) (fun _ h => h) fun _ _ => rfl
  cases k with
  | els T sz xs =>
    obtain ⟨h1, h2, h3, h4, h5⟩ := h
    refine ⟨h1, h2, h3, h4, h5.imp id ?_⟩
    rintro ⟨b, cur, g1, g2, g3, g4, g5, g6, g7⟩
    refine ⟨b, cur, g1, hM b g1 g2, g3, g4, g5, g6, fun i j x u hx hu => ?_⟩
    obtain ⟨c, hc, hr⟩ := g7 i j x u hx hu
    exact ⟨c, hc, mono hr⟩
  | map es =>
    obtain ⟨b, ents, clock, g1, g2, g3, g4, g5⟩ := h
    exact ⟨b, ents, clock, g1, hM b g1 g2, g3, g4, fun i k v e hk he => ⟨(g5 i k v e hk he).1.mono (fun b _ hb => hX b hb) (.refl _ w), mono (g5 i k v e hk he).2⟩⟩
  | sit t pos =>
    obtain ⟨h0, b, g1, g2, g3⟩ := h
    exact ⟨h0, b, g1, hM b g1 g2, g3⟩
theorem lk_given {ns : List (Nat × Blk)} {st : List (Nat × Option Blk)} {n : Nat} {k : Blk} (h : (match lk (ns.map (fun p => (p.1, (none : Option Blk))) ++ st) n with | some x => x | none => none) = some k) : (∀ p ∈ ns, p.1 ≠ n) ∧ (match lk st n with | some x => x | none => none) = some k := by
  induction ns with
  | nil => exact ⟨fun p hp => (by cases hp), h⟩
  | cons p r ih =>
    simp only [List.map_cons, List.cons_append] at h
    rw [lk_put] at h
    by_cases e : p.1 = n
    · rw [if_pos e] at h; cases h
    · rw [if_neg e] at h
      obtain ⟨h1, h2⟩ := ih h
      exact ⟨fun q hq => (List.mem_cons.1 hq).elim (fun e2 => e2 ▸ e) fun hq => h1 q hq, h2⟩
theorem lk_handed {n : Nat} {k : Blk} : ∀ {ns : List (Nat × Blk)}, lk ns n = some k → lk (ns.map fun p => (p.1, some p.2)) n = some (some k)
  | [], h => by cases h
  | (q1, q2) :: l, h => by
    rw [lk_put] at h
    rw [List.map_cons, lk_put]
    by_cases e : q1 = n
    · rw [if_pos e] at h ⊢; cases h; rfl
    · rw [if_neg e] at h ⊢; exact lk_handed h
theorem law_call_give {f : Nat} {xs : Array Operand} {ts : Array TypeId} {vs us : List V} {r : V} (ns : List (Nat × Blk)) (ho : o.op = .call { callee := .value (.func f), args := xs, argTypes := ts }) (hc : ∀ (fs : Array Value) (w : World), (callFunc f fs).run P w = .ok (.enter f fs) w) (hl : vs.length = xs.size)
    (hf : frzL (lk ns) vs = some us) (hok : FrzOkL (lk ns) vs) (h : ACallsG P N.g f us r) : OpLaw P N o ⟨tsOf xs.toList vs, ns⟩ r (ns.map fun p => (p.1, none)) [] := fun s M A φ a w hh hr _ hd => by
  unfold Oper.wp
  rw [run_call ho hc]
  obtain ⟨l1, l2⟩ := frzL_some hf
  let H : Nat → Prop := fun b => ∃ p ∈ ns, (φ p.1).blk = some b
  let M1 : Nat → Prop := fun b => M b ∧ ¬ H b
  have hH : ∀ b, H b → M b := fun b ⟨p, hp, hb⟩ => hr.lt_blk (hh.2 p hp) hb
  let N2 : Env := ⟨⟨fun b => M1 b ∨ N b, N.g⟩, N.K, N.pl⟩
  have hX2 : ∀ b, (H b ∨ N2 b) → M b ∨ N b := fun b h => by
    rcases h with h | h | h
    · exact .inl (hH b h)
    · exact .inl h.1
    · exact .inr h
  have hrow : ∀ n k, (S.mk s.tm (ns.map fun p => (p.1, some p.2)) s.nx s.nt).blk n = some k → s.blk n = some k ∧ ∃ p ∈ ns, p.1 = n := fun n k hk => by
    have hm := blk_mem hk
    obtain ⟨p, hp, e⟩ := List.mem_map.1 hm
    cases e
    exact ⟨hh.2 p hp, p, hp, rfl⟩
  have r2 : Rel N2 H A φ ⟨s.tm, ns.map (fun p => (p.1, some p.2)), s.nx, s.nt⟩ a w := by
    refine ⟨fun t u ht => ⟨(hr.tm t u ht).1, (hr.tm t u ht).2.mono (fun b _ h => hX2 b h) (.refl _ w) (fun _ h => h) fun _ _ => rfl⟩, hr.nt, fun n k hk => ?_, fun n n' k k' b e1 e2 => hr.inj n n' k k' b (hrow n k e1).1 (hrow n' k' e2).1, fun b hb => hr.lim b (hX2 b hb), fun b hb hn => ?_, hr.df, hr.pin, hr.gl.sub hX2⟩
    · obtain ⟨g1, p, hp, rfl⟩ := hrow n k hk
      obtain ⟨g2, g3⟩ := hr.st p.1 k g1
      exact ⟨g2, g3.less hX2 fun b hb _ => ⟨p, hp, hb⟩⟩
    · rcases hn with hn | hn
      · exact hn.2 hb
      · exact hr.dis b (hH b hb) hn
  have r3 : Rel N M1 A φ ⟨s.tm, ns.map (fun p => (p.1, (none : Option Blk))) ++ s.st, s.nx, s.nt⟩ a w := by
    have old : ∀ n k, (S.mk s.tm (ns.map (fun p => (p.1, (none : Option Blk))) ++ s.st) s.nx s.nt).blk n = some k → (∀ p ∈ ns, p.1 ≠ n) ∧ s.blk n = some k := fun n k hk => lk_given hk
    refine ⟨fun t u ht => ⟨(hr.tm t u ht).1, (hr.tm t u ht).2.mono (fun b _ h => h.imp And.left id) (.refl _ w) (fun _ h => h) fun _ _ => rfl⟩, hr.nt, fun n k hk => ?_, fun n n' k k' b e1 e2 => hr.inj n n' k k' b (old n k e1).2 (old n' k' e2).2, fun b hb => hr.lim b (hb.imp And.left id), fun b hb => hr.dis b hb.1, hr.df, hr.pin, hr.gl.sub fun b hb => hb.imp And.left id⟩
    obtain ⟨g0, g1⟩ := old n k hk
    obtain ⟨g2, g3⟩ := hr.st n k g1
    refine ⟨g2, g3.less (fun b h => h.imp And.left id) fun b hb hm => ⟨hm, fun ⟨p, hp, hpb⟩ => ?_⟩⟩
    exact g0 p hp (hr.inj p.1 n _ _ b (hh.2 p hp) g1 hpb hb)
  refine Calls.mono (h N2 w (xs.map a.eval) (hr.gl.sub fun b hb => hX2 b (.inr hb)) (fun b hb => r2.lim b (.inr hb)) (by rw [← l1]; simpa using hl) fun i u x hu hx => ?_) ?_
  · simp only [Array.getElem?_map, Option.map_eq_some_iff] at hx
    obtain ⟨p, hp, rfl⟩ := hx
    have hil : i < vs.length := by rw [l1]; exact (List.getElem?_eq_some_iff.1 hu).1
    obtain ⟨u', m1, m2⟩ := l2 i vs[i] (List.getElem?_eq_getElem hil)
    rw [hu] at m1; cases m1
    have hev := hr.ev (ts_at hh i p vs[i] (by simpa using hp) (List.getElem?_eq_getElem hil))
    refine r2.frz (b := lk ns) (fun n k hk => ?_) (hev.mono (fun b _ h => hX2 b h) (.refl _ w) (fun _ h => h) fun _ _ => rfl) m2 (frzOkL_at hok _ (List.getElem_mem hil))
    have : lk (ns.map fun p => (p.1, some p.2)) n = some (some k) := lk_handed hk
    show (match lk (ns.map fun p => (p.1, some p.2)) n with | some x => x | none => none) = some k
    rw [this]
  · rintro e w' ⟨x, rfl, hb, hfz⟩
    obtain ⟨M2, φ2, k1, k2, k3⟩ := rel_grow_dst (s := ⟨s.tm, ns.map (fun p => (p.1, (none : Option Blk))) ++ s.st, s.nx, s.nt⟩) (dst := o.dst) (nx := s.nx) r3 hb (.fz hfz) hd
    refine ⟨M2, φ2, ⟨k1.os, k1.tape, k1.output, k1.size, fun b hb2 hm => k1.block b hb2 fun h => hm h.1⟩, fun b hb2 h => (k2 b hb2 h).1, k3.as (fun t => ?_) (fun n => rfl) rfl⟩
    cases o.dst <;> rfl
end
section
variable {P : Program} {N : Env} {l r : List Oper} {o : Oper} {tm : List (Nat × V)} {st : List (Nat × Option Blk)} {nx nt : Nat} {tr : List Tr} {K : S → List Tr → Prop} {d : Nat}
theorem x_give {f : Nat} {xs : Array Operand} {ts : Array TypeId} {vs us : List V} {w : V} {ns : List (Nat × Blk)} {st2 : List (Nat × Option Blk)} (names : List Nat) (h : ACallsG P N.g f us w) (k : ARun P N l K r ⟨(d, w) :: tm, st2, nx, nt⟩ (tr ++ [trOf l o ⟨tsOf xs.toList vs, ns⟩ (ns.map fun p => (p.1, none))])) (ho : o.op = .call { callee := .value (.func f), args := xs, argTypes := ts } := by rfl) (he : evL ⟨tm, st, nx, nt⟩ xs.toList = some vs := by rfl) (hg : guardV l o ⟨tm, st, nx, nt⟩ = some true := by rfl) (hd : o.dst = some d := by rfl) (hlt : Nat.blt d nt = true := by rfl) (hb : hasBody P f = true := by kernel_rfl) (hr : rowsO ⟨tm, st, nx, nt⟩ names = some ns := by rfl) (hf : frzL (lk ns) vs = some us := by rfl) (hok : FrzOkL (lk ns) vs := by repeat' first | exact trivial | exact rfl | exact frz_map (fun _ => rfl) | exact frz_row (fun _ => rfl) | (intro u hu; obtain rfl := List.mem_singleton.1 hu; exact rfl) | constructor) (hst2 : appO (ns.map fun p => (p.1, none)) st = some st2 := by rfl) : ARun P N l K (o :: r) ⟨tm, st, nx, nt⟩ tr := r_m (law_call_give ns ho (enters hb) (ev_len he) hf hok h) nx (by unfold newsOk; simp) hg hd hlt (ts_of he (rowsO_at hr)) hst2 k
end
end Go.Proofs.YtdimidhacccdjaaDoor.Abs
