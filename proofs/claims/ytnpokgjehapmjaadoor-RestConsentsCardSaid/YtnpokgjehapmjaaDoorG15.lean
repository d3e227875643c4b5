/- Texts of the proof, joined: Mut, Zer, Hand, Min, ConM. -/
import Derived.Test.YtnpokgjehapmjaaDoorG11
import Derived.Test.YtnpokgjehapmjaaDoorG10
import Derived.Test.YtnpokgjehapmjaaDoorG12
section
namespace Go.Proofs.YtnpokgjehapmjaaDoor.Abs
open Go.RowKit Mem Facts

section
variable {X A A' : Nat → Prop} {φ φ' : Nat → Pl} {w w' : World} {P : Program} {tb : List Ty} {T : Nat} {e ee : Ty} {N : Env} {M : Nat → Prop} {o : Oper} {s : S} {a : Act}
/-! ### Rows that are cut -/
theorem slice_own {x : Operand} {lo hi : Option Operand} {n i len l h el T' sz : Nat} {xs : List V} {ts : List (Operand × V)} (htb : TbOk P tb) (ho : o.op = .slice T x lo hi none) (hT : nth tb T = some e) (hs : e.sl = some el) (hE : nth tb el = some ee) (hsz : ee.size = sz) (hl : BoundOp lo l 0 ts) (hh : BoundOp hi h len ts) (h1 : l ≤ h) (h2 : i + h ≤ xs.length) :
    (l < h ∨ l = 0 → OpLaw P N o ⟨(x, .own n i len) :: ts, [(n, .els T' sz xs)]⟩ (.own n (i + l) (h - l)) [] []) ∧ (l = h → OpLaw P N o ⟨(x, .own n i len) :: ts, [(n, .els T' sz xs)]⟩ (.fro []) [] []) := by
  have key : ∀ s' M A φ a w, Holds ⟨(x, .own n i len) :: ts, [(n, .els T' sz xs)]⟩ s' → Rel N M A φ s' a w → ∃ A0 cap', (A0 = none → cap' = 0) ∧ (execOp a.eval o).run P w = .ok (.value (.slice A0 (h - l) cap')) w ∧ (l < h ∨ l = 0 → Rep (fun b => M b ∨ N b) A φ w (.own n (i + l) (h - l)) (.slice A0 (h - l) cap')) := by
    intro s' M A φ a w hd hr
    obtain ⟨ti, d, ht⟩ := ty_at htb hT
    obtain ⟨ei, de, hte⟩ := ty_at htb hE
    have hu := sl_at ht hs
    have hd' : Holds ⟨ts, []⟩ s' := ⟨fun p hp => hd.1 p (List.mem_cons_of_mem _ hp), fun p hp => by simp at hp⟩
    have b1 := bound_is (fp := ⟨ts, []⟩) hl hd' hr
    have b2 := bound_is (fp := ⟨ts, []⟩) hh hd' hr
    obtain ⟨g0, g1, g2, g3, g4, g5⟩ := hr.st n _ hd.n
    have hrep := hr.ev hd.a
    generalize hx : a.eval x = v at hrep
    cases hrep with
    | fz h => cases h
    | own0 k1 k2 =>
      have : xs = [] := by
        rcases g5 with ⟨_, k, _⟩ | ⟨b, cur, k3, _⟩
        · exact k
        · rw [k2] at k3; cases k3
      subst this
      have hh0 : h = 0 := by simp at h2; omega
      have hl0 : l = 0 := by omega
      subst hh0 hl0
      refine ⟨none, 0, fun _ => rfl, ?_, fun _ => .own0 k1 k2⟩
      unfold execOp
      simp only [ho, hx, Instr.sliceAt, Sem.run_bind, run_underlying hu, Result.andThen_ok, Instr.slice, Option.map_none]
      simp [run_bounds (b := true) b1 b2 (Nat.le_refl 0) (Nat.le_refl 0), run_sizeOf' hte.info]
    | @own _ _ _ b k1 k2 k3 k4 =>
      rcases g5 with ⟨k5, _⟩ | ⟨b', cur, k5, q2, q3, q4, q5, q6, q7⟩
      · rw [k2] at k5; cases k5
      have hcap : h ≤ (φ n).cap - i := by omega
      have hei : ei.size = (φ n).sz := by rw [hte.size, hsz, g1]
      refine ⟨if (φ n).cap - i = l then some ⟨b, i * (φ n).sz, none⟩ else some ⟨b, i * (φ n).sz + l * ei.size, none⟩, (φ n).cap - i - l, (by intro h; exfalso; revert h; split <;> simp), ?_, fun hlh => ?_⟩
      · unfold execOp
        simp only [ho, hx, Instr.sliceAt, Sem.run_bind, run_underlying hu, Result.andThen_ok, Instr.slice, Option.map_none]
        simp [run_bounds (b := true) b1 b2 h1 hcap, run_sizeOf' hte.info, addr_add]
      · have e1 : (if (φ n).cap - i = l then some (⟨b, i * (φ n).sz, none⟩ : Addr) else some ⟨b, i * (φ n).sz + l * ei.size, none⟩) = some ⟨b, (i + l) * (φ n).sz, none⟩ := by
          rw [hei, Nat.add_mul]
          split
          · have : l = 0 := by omega
            subst this; simp
          · rfl
        rw [e1, show (φ n).cap - i - l = (φ n).cap - (i + l) by omega]
        exact .own k1 k2 (by omega) k4
  refine ⟨fun hlh => law_pure fun s' M A φ a w hd hr => ?_, fun hlh => law_pure fun s' M A φ a w hd hr => ?_⟩
  · obtain ⟨A0, cap', _, k1, k2⟩ := key s' M A φ a w hd hr
    exact ⟨_, k1, k2 hlh⟩
  · obtain ⟨A0, cap', k0, k1, _⟩ := key s' M A φ a w hd hr
    rw [hlh, Nat.sub_self] at k1
    exact ⟨_, k1, .fz (.fro0 k0)⟩
/-- A name more, of a place that has one: what is never asked. -/
theorem rel_alias {pl : Pl} {ν nx : Nat} {dst : Option Nat} {v : V} {x : Value} (hr : Rel N M A φ s a w) (hν : ¬ A ν) (hv : ∀ φ', φ' ν = pl → Rep (fun b => M b ∨ N b) (fun n => A n ∨ n = ν) φ' w v x) (hd : ∀ d, dst = some d → d < s.nt) :
    ∃ M' φ', Stays M w w ∧ (∀ b, b < w.heap.size → M' b → M b) ∧ Rel N M' (fun n => A n ∨ n ∈ [ν]) φ' (s.eff dst v [] nx) (a.put dst x) w := by
  let φ' : Nat → Pl := fun n => if n = ν then pl else φ n
  have hφ : ∀ n, A n → φ' n = φ n := fun n hn => if_neg fun (e : n = ν) => hν (e ▸ hn)
  have hφν : φ' ν = pl := if_pos rfl
  have hgrow : Rel N M (fun n => A n ∨ n = ν) φ' s a w := by
    refine ⟨fun t u ht => ?_, hr.nt, fun n q hq => ?_, fun n n' q q' b h1 h2 h3 h4 => ?_, hr.lim, hr.dis, hr.df, fun n hn => ⟨.inl (hr.pin n hn).1, (hφ n (hr.pin n hn).1).trans (hr.pin n hn).2⟩, hr.gl⟩
    · obtain ⟨h1, h2⟩ := hr.tm t u ht
      exact ⟨h1, h2.mono (fun _ _ h => h) (.refl _ w) (fun _ h => .inl h) hφ⟩
    · obtain ⟨h1, h2⟩ := hr.st n q hq
      refine ⟨.inl h1, ?_⟩
      rw [hφ n h1]
      exact h2.mono (fun _ _ h => h) (.refl _ w) (fun _ h => .inl h) hφ (fun _ h => h) fun _ _ => rfl
    · rw [hφ n (hr.st n q h1).1] at h3
      rw [hφ n' (hr.st n' q' h2).1] at h4
      exact hr.inj n n' q q' b h1 h2 h3 h4
  exact ⟨M, φ', .refl _ w, fun _ _ h => h, (rel_dst hgrow (hv φ' hφν) hd).wider fun n h => h.imp id fun e => by simp [e]⟩
theorem reps_one_list {us : List V} {cs : List Value} (h : Reps X A φ w us cs) (h1 : us.all V.one = true) : ∀ c ∈ cs, c.oneCell' = true := h.one fun u hu => List.all_eq_true.1 h1 u hu
/-- clear: what stands from there on is told no more. -/
theorem law_clear {x : Operand} {n i len T' sz el : Nat} {xs : List V} {z : V} (htb : TbOk P tb) (ho : o.op = .call { callee := .builtin .clear, args := #[x], argTypes := #[T] }) (hT : nth tb T = some e) (hs : e.sl = some el) (hE : nth tb el = some ee) (hz : ee.zeroV = some z) (hzl : z.cells.length = sz) (h0 : 0 < len) :
    OpLaw P N o ⟨[(x, .own n i len)], [(n, .els T' sz xs)]⟩ (.tup []) [(n, some (.els T' sz (xs.take i)))] [] := fun s M A φ a w hh hr _ hd => by
  obtain ⟨ti, d, ht⟩ := ty_at htb hT
  have hu := sl_at ht hs
  obtain ⟨zv, z0, z2, z3, _⟩ := run_zero htb hE hz
  obtain ⟨g0, g1, g2, g3, g4, g5⟩ := hr.st n _ hh.n
  have hrep := hr.ev hh.a
  have zr := rep_reps (z2 (fun b => M b ∨ N b) A φ w) z3
  have zone := reps_one_list zr z3
  have zsz : zv.cells.size = sz := by rw [← hzl, zr.1]; simp
  generalize hx : a.eval x = v at hrep
  cases hrep with
  | fz h => cases h
  | own0 q1 q2 => omega
  | @own _ _ _ b q1 q2 q3 q4 =>
    rcases g5 with ⟨k5, _⟩ | ⟨b', cur, k5, p2, p3, p4, p5, p6, p7⟩
    · rw [q2] at k5; cases k5
    rw [q2] at k5; cases k5
    have hlen : (Builtin.zeroCells zv.cells len).toList.length = len * sz := by simp [Builtin.zeroCells, zsz]
    have hone : ∀ v ∈ (Builtin.zeroCells zv.cells len).toList, v.oneCell' = true := by
      intro c hc
      simp only [Builtin.zeroCells, Array.toList_map, List.mem_map] at hc
      obtain ⟨q, _, rfl⟩ := hc
      have hlt : q % zv.cells.size < zv.cells.size := Nat.mod_lt _ (by omega)
      rw [getElem!_pos zv.cells _ hlt]
      exact zone _ (by simp)
    have hfit : i * sz + 0 + (Builtin.zeroCells zv.cells len).toList.length ≤ cur.size := by
      rw [hlen, p4, Nat.add_zero, ← Nat.add_mul]
      exact Nat.mul_le_mul_right _ q3
    have hst := run_storeCells_at (P := P) b (i * sz) T' _ 0 cur w p3 hfit hone
    obtain ⟨lenq, rfl⟩ : ∃ q, len = q + 1 := ⟨len - 1, by omega⟩
    rw [g1] at hx
    have hrun : (execOp a.eval o).run P w = .ok (.value (.tuple #[])) (w.setRow b (cur.toList.take (i * sz + 0) ++ (Builtin.zeroCells zv.cells (lenq + 1)).toList ++ cur.toList.drop (i * sz + 0 + (Builtin.zeroCells zv.cells (lenq + 1)).toList.length)).toArray) := by
      unfold execOp
      simp only [ho, resolve, invoke, builtin, Sem.run_bind, Sem.run_pure, Result.andThen_ok, List.map_toArray, List.map_cons, List.map_nil, hx]
      simp only [Builtin.clear_, run_underlying hu, Sem.run_bind, Result.andThen_ok, z0, hst, Sem.run_pure, List.getElem?_toArray, List.getElem?_cons_zero]
    unfold Oper.wp
    rw [hrun]
    have cell : ∀ q, q < i * sz → (cur.toList.take (i * sz + 0) ++ (Builtin.zeroCells zv.cells (lenq + 1)).toList ++ cur.toList.drop (i * sz + 0 + (Builtin.zeroCells zv.cells (lenq + 1)).toList.length)).toArray[q]? = cur[q]? := fun q hq => by
      have hc : q < cur.size := by omega
      simp only [List.getElem?_toArray, Nat.add_zero]
      rw [List.append_assoc, List.getElem?_append_left (by simp; omega), List.getElem?_take_of_lt hq]
      simp
    refine rel_set hr hh.n q2 p3 (by simp [hlen]; simp [hlen] at hfit; omega) (by simp [List.length_take]; omega) (fun y hy => g4 y (List.mem_of_mem_take hy)) (fun i' j y u hy hu => ?_) (.fz (.tup rfl fun i x c h => by simp at h)) hd
    have hi' : i' < i := by
      have := (List.getElem?_eq_some_iff.1 hy).1
      simp at this; omega
    rw [List.getElem?_take_of_lt hi'] at hy
    obtain ⟨c, c1, c2⟩ := p7 i' j y u hy hu
    refine ⟨c, ?_, c2⟩
    rw [cell _ ?_]
    · exact c1
    · have h3 := (g4 y (List.mem_of_getElem? hy)).1
      have h4 := (List.getElem?_eq_some_iff.1 hu).1
      have : (i' + 1) * sz ≤ i * sz := Nat.mul_le_mul_right _ hi'
      rw [Nat.add_mul] at this
      omega
end

/-! ### Steps -/
section
variable {P : Program} {N : Env} {l r : List Oper} {o : Oper} {tm : List (Nat × V)} {st : List (Nat × Option Blk)} {nx nt : Nat} {tr : List Tr} {K : S → List Tr → Prop} {tb : List Ty} {d T : Nat} {x y z u : Operand} {fp : Fp} {v : V} {e ee ek : Ty} {m kt el : Nat} {kd kd' kd2 : IntKind}
theorem r_alias {ν : Nat} (hν : ν = nx) (hg : guardV l o ⟨tm, st, nx, nt⟩ = some true) (hd : o.dst = some d) (hlt : Nat.blt d nt = true) (law : OpLaw P N o fp v [] [ν]) (hh : Holds fp ⟨tm, st, nx, nt⟩) (k : ARun P N l K r ⟨(d, v) :: tm, st, nx + 1, nt⟩ (tr ++ [trOf l o fp []])) : ARun P N l K (o :: r) ⟨tm, st, nx, nt⟩ tr :=
  .on fp v [] [ν] (nx + 1) hg law hh ⟨Nat.le_succ _, fun n h => by rw [List.mem_singleton] at h; show nx ≤ n ∧ n < nx + 1; omega⟩ (fun d' h => by rw [hd] at h; cases h; exact blt_lt hlt) (by
    have e : S.eff ⟨tm, st, nx, nt⟩ o.dst v [] (nx + 1) = ⟨(d, v) :: tm, st, nx + 1, nt⟩ := by rw [hd]; rfl
    rw [e]; exact k)
theorem x_slOf {α : Type} {f : α → V} {L : List α} {i0 len a sz T' : Nat} (htb : TbOk P tb) (k : ARun P N l K r ⟨(d, .own m (i0 + a) (len - a)) :: tm, st, nx, nt⟩ (tr ++ [trOf l o ⟨[(x, .own m i0 len), (y, .int kd (a : Nat))], [(m, .els T' sz (L.map f))]⟩ []])) (ho : o.op = .slice T x (some y) none none := by rfl) (hx : S.ev ⟨tm, st, nx, nt⟩ x = some (.own m i0 len) := by rfl) (hy : S.ev ⟨tm, st, nx, nt⟩ y = some (.int kd (a : Nat)) := by rfl) (hB : S.blk ⟨tm, st, nx, nt⟩ m = some (.els T' sz (L.map f)) := by rfl) (hg : guardV l o ⟨tm, st, nx, nt⟩ = some true := by rfl) (hd : o.dst = some d := by rfl) (hlt : Nat.blt d nt = true := by rfl) (hT' : nth tb T = some e := by rfl) (hs : e.sl = some el := by rfl) (hE : nth tb el = some ee := by rfl) (hsz : ee.size = sz := by rfl) (h1 : a < len := by omega) (h2 : i0 + len ≤ L.length := by omega) : ARun P N l K (o :: r) ⟨tm, st, nx, nt⟩ tr :=
  r_val hg hd hlt ((slice_own (ts := [(y, .int kd (a : Nat))]) (l := a) (h := len) htb ho hT' hs hE hsz ⟨kd, by simp⟩ rfl (Nat.le_of_lt h1) (by simpa using h2)).1 (.inl h1)) (hT hx (hT hy (hN hB h0))) k
theorem x_slOt {α : Type} {f : α → V} {L : List α} {i0 len b sz T' : Nat} (htb : TbOk P tb) (k : ARun P N l K r ⟨(d, .own m i0 b) :: tm, st, nx, nt⟩ (tr ++ [trOf l o ⟨[(x, .own m i0 len), (z, .int kd' (b : Nat))], [(m, .els T' sz (L.map f))]⟩ []])) (ho : o.op = .slice T x none (some z) none := by rfl) (hx : S.ev ⟨tm, st, nx, nt⟩ x = some (.own m i0 len) := by rfl) (hz : S.ev ⟨tm, st, nx, nt⟩ z = some (.int kd' (b : Nat)) := by rfl) (hB : S.blk ⟨tm, st, nx, nt⟩ m = some (.els T' sz (L.map f)) := by rfl) (hg : guardV l o ⟨tm, st, nx, nt⟩ = some true := by rfl) (hd : o.dst = some d := by rfl) (hlt : Nat.blt d nt = true := by rfl) (hT' : nth tb T = some e := by rfl) (hs : e.sl = some el := by rfl) (hE : nth tb el = some ee := by rfl) (hsz : ee.size = sz := by rfl) (h2 : i0 + b ≤ L.length := by omega) : ARun P N l K (o :: r) ⟨tm, st, nx, nt⟩ tr :=
  r_val hg hd hlt ((slice_own (ts := [(z, .int kd' (b : Nat))]) (l := 0) (h := b) htb ho hT' hs hE hsz rfl ⟨kd', by simp⟩ (Nat.zero_le _) (by simpa using h2)).1 (.inr rfl)) (hT hx (hT hz (hN hB h0))) k
theorem x_clear {α : Type} (f : α → V) {L : List α} (L2 : List α) {i0 len sz T' : Nat} {z0 : V} (htb : TbOk P tb) (k : ARun P N l K r ⟨tm, (m, some (.els T' sz (L2.map f))) :: st, nx, nt⟩ (tr ++ [trOf l o ⟨[(x, .own m i0 len)], [(m, .els T' sz (L.map f))]⟩ [(m, some (.els T' sz (L2.map f)))]])) (ho : o.op = .call { callee := .builtin .clear, args := #[x], argTypes := #[T] } := by rfl) (hx : S.ev ⟨tm, st, nx, nt⟩ x = some (.own m i0 len) := by rfl) (hB : S.blk ⟨tm, st, nx, nt⟩ m = some (.els T' sz (L.map f)) := by rfl) (hg : guardV l o ⟨tm, st, nx, nt⟩ = some true := by rfl) (hd : o.dst = none := by rfl) (hT' : nth tb T = some e := by rfl) (hs : e.sl = some el := by rfl) (hE : nth tb el = some ee := by rfl) (hz0 : ee.zeroV = some z0 := by rfl) (hzl : z0.cells.length = sz := by rfl) (h1 : 0 < len := by omega) (h2 : L.take i0 = L2 := by first | rfl | assumption) : ARun P N l K (o :: r) ⟨tm, st, nx, nt⟩ tr :=
  r_set hg hd (by
    have h := law_clear (P := P) (N := N) (n := m) (i := i0) (len := len) (T' := T') (xs := L.map f) htb ho hT' hs hE hz0 hzl h1
    rw [← List.map_take, h2] at h
    exact h) (hT hx (hN hB h0)) k
end
/-! ### A call that leaves some of the rows that it is handed as they are -/
inductive KeptN : List Nat → List (Nat × Blk) → List (Nat × Option Blk) → Prop
  | nil {bs up} : KeptN [] bs up
  | cons {n ks bs up b} : lk up n = some (some b) → lk bs n = some b → KeptN ks bs up → KeptN (n :: ks) bs up
def dropN (ks : List Nat) : List (Nat × Option Blk) → List (Nat × Option Blk)
  | [] => []
  | p :: r => bif ks.any (Nat.beq p.1) then dropN ks r else p :: dropN ks r
theorem KeptN.at {ks : List Nat} {bs : List (Nat × Blk)} {up : List (Nat × Option Blk)} (h : KeptN ks bs up) : ∀ n ∈ ks, ∃ b, lk up n = some (some b) ∧ lk bs n = some b := by
  induction h with
  | nil => intro n h; simp at h
  | cons h1 h2 _ ih =>
    intro n h
    rcases List.mem_cons.1 h with rfl | h
    · exact ⟨_, h1, h2⟩
    · exact ih n h
theorem any_beq {ks : List Nat} {n : Nat} : ks.any (Nat.beq n) = true ↔ n ∈ ks := by
  rw [List.any_eq_true]
  exact ⟨fun ⟨x, h1, h2⟩ => by rw [Nat.eq_of_beq_eq_true h2]; exact h1, fun h => ⟨n, h, by simp⟩⟩
theorem lk_dropN {ks : List Nat} {n : Nat} : ∀ up : List (Nat × Option Blk), lk (dropN ks up) n = if n ∈ ks then none else lk up n
  | [] => by simp [dropN, lk]
  | (k, v) :: r => by
    rw [dropN]
    have ih := lk_dropN (ks := ks) (n := n) r
    by_cases hk : k ∈ ks
    · rw [any_beq.2 hk, cond_true, ih, lk_put]
      by_cases hn : n ∈ ks
      · rw [if_pos hn, if_pos hn]
      · rw [if_neg hn, if_neg hn, if_neg (fun (e : k = n) => hn (e ▸ hk))]
    · have : ks.any (Nat.beq k) = false := by
        cases h : ks.any (Nat.beq k) with
        | false => rfl
        | true => exact absurd (any_beq.1 h) hk
      rw [this, cond_false, lk_put, lk_put, ih]
      by_cases e : k = n
      · subst e; rw [if_pos rfl, if_pos rfl, if_neg hk]
      · rw [if_neg e, if_neg e]
theorem law_less {P : Program} {N : Env} {o : Oper} {ts : List (Operand × V)} {bs : List (Nat × Blk)} {v : V} {up up2 : List (Nat × Option Blk)} {new ks : List Nat} (h : OpLaw P N o ⟨ts, bs⟩ v up new) (hk : KeptN ks bs up) (hu : dropN ks up = up2) : OpLaw P N o ⟨ts, bs⟩ v up2 new := fun s M A φ a w hh hr hn hd => by
  subst hu
  refine Oper.wp_mono (fun a' w' ⟨M', φ', h1, h2, h3⟩ => ⟨M', φ', h1, h2, h3.as (fun t => ?_) (fun n => ?_) ?_⟩) (h s M A φ a w hh hr hn hd)
  · rfl
  · unfold S.blk S.eff
    simp only [lk_app, lk_dropN]
    by_cases hm : n ∈ ks
    · obtain ⟨b, g1, g2⟩ := hk.at n hm
      rw [if_pos hm, g1]
      have := hh.2 (n, b) (lk_mem g2)
      unfold S.blk at this
      simpa using this
    · rw [if_neg hm]
  · rfl
section
variable {P : Program} {N : Env} {l r : List Oper} {o : Oper} {tm : List (Nat × V)} {st : List (Nat × Option Blk)} {nx nt : Nat} {tr : List Tr} {K : S → List Tr → Prop} {d : Nat}
theorem x_mK {f nx' : Nat} {xs : Array Operand} {ts : Array TypeId} {args vs : List V} {sts bs : List Blk} {rv r2 : V} {sts' us : List (Option Blk)} {up up2 st2 : List (Nat × Option Blk)} (ns news ks : List Nat) (h : MCallsG P N.g f args sts rv sts') (k : ARun P N l K r ⟨(d, r2) :: tm, st2, nx', nt⟩ (tr ++ [trOf l o ⟨tsOf xs.toList vs, zipB ns bs⟩ up2])) (ho : o.op = .call { callee := .value (.func f), args := xs, argTypes := ts } := by rfl) (he : evL ⟨tm, st, nx, nt⟩ xs.toList = some vs := by rfl) (hargs : renOL ns args = some vs := by rfl) (hg : guardV l o ⟨tm, st, nx, nt⟩ = some true := by rfl) (hd : o.dst = some d := by rfl) (hlt : Nat.blt d nt = true := by rfl) (hb : hasBody P f = true := by kernel_rfl) (_hnx : nx + news.length = nx' := by rfl) (hbs : rowsL ⟨tm, st, nx, nt⟩ ns = some bs := by rfl) (hst : RenBs ns sts bs := by repeat' first | exact RenBs.nil | apply RenBs.cons | exact RenB.same (nl_map fun _ => rfl) | exact RenB.ren rfl | exact RenB.sit | exact RenB.map (map_nl fun _ => rfl) | exact RenB.map (by assumption)) (hlen : Nat.beq ns.length sts.length = true := by rfl) (hdis : distinctB (ns ++ news) = true := by rfl) (hlen' : Nat.beq (ns ++ news).length sts'.length = true := by rfl) (hr2 : renO (ns ++ news) rv = some r2 := by rfl) (hus : RenOs (ns ++ news) sts' us := by repeat' first | exact RenOs.nil | apply RenOs.no | apply RenOs.on | exact RenB.same (nl_map fun _ => rfl) | exact RenB.ren rfl | exact RenB.sit | exact RenB.map (map_nl fun _ => rfl) | exact RenB.map (by assumption)) (hup : zipO (ns ++ news) us = some up := by rfl) (hks : KeptN ks (zipB ns bs) up := by repeat' first | exact KeptN.nil | refine KeptN.cons rfl rfl ?_) (hup2 : dropN ks up = up2 := by rfl) (hst2 : appO up2 st = some st2 := by rfl) (hnw : newsOk nx nx' news = true := by rfl) : ARun P N l K (o :: r) ⟨tm, st, nx, nt⟩ tr := r_m (law_less (law_mcall ns news ho (enters hb) h hargs (ev_len he) hst hlen hdis hlen' hr2 hus hup) hks hup2) nx' hnw hg hd hlt (ts_of he (rowsL_at hbs)) hst2 k
theorem x_mK0 {f nx' : Nat} {xs : Array Operand} {ts : Array TypeId} {args vs : List V} {sts bs : List Blk} {rv r2 : V} {sts' us : List (Option Blk)} {up up2 st2 : List (Nat × Option Blk)} (ns news ks : List Nat) (h : MCallsG P N.g f args sts rv sts') (k : ARun P N l K r ⟨tm, st2, nx', nt⟩ (tr ++ [trOf l o ⟨tsOf xs.toList vs, zipB ns bs⟩ up2])) (ho : o.op = .call { callee := .value (.func f), args := xs, argTypes := ts } := by rfl) (he : evL ⟨tm, st, nx, nt⟩ xs.toList = some vs := by rfl) (hargs : renOL ns args = some vs := by rfl) (hg : guardV l o ⟨tm, st, nx, nt⟩ = some true := by rfl) (hd : o.dst = none := by rfl) (hb : hasBody P f = true := by kernel_rfl) (_hnx : nx + news.length = nx' := by rfl) (hbs : rowsL ⟨tm, st, nx, nt⟩ ns = some bs := by rfl) (hst : RenBs ns sts bs := by repeat' first | exact RenBs.nil | apply RenBs.cons | exact RenB.same (nl_map fun _ => rfl) | exact RenB.ren rfl | exact RenB.sit | exact RenB.map (map_nl fun _ => rfl) | exact RenB.map (by assumption)) (hlen : Nat.beq ns.length sts.length = true := by rfl) (hdis : distinctB (ns ++ news) = true := by rfl) (hlen' : Nat.beq (ns ++ news).length sts'.length = true := by rfl) (hr2 : renO (ns ++ news) rv = some r2 := by rfl) (hus : RenOs (ns ++ news) sts' us := by repeat' first | exact RenOs.nil | apply RenOs.no | apply RenOs.on | exact RenB.same (nl_map fun _ => rfl) | exact RenB.ren rfl | exact RenB.sit | exact RenB.map (map_nl fun _ => rfl) | exact RenB.map (by assumption)) (hup : zipO (ns ++ news) us = some up := by rfl) (hks : KeptN ks (zipB ns bs) up := by repeat' first | exact KeptN.nil | refine KeptN.cons rfl rfl ?_) (hup2 : dropN ks up = up2 := by rfl) (hst2 : appO up2 st = some st2 := by rfl) (hnw : newsOk nx nx' news = true := by rfl) : ARun P N l K (o :: r) ⟨tm, st, nx, nt⟩ tr := r_m0 (law_less (law_mcall ns news ho (enters hb) h hargs (ev_len he) hst hlen hdis hlen' hr2 hus hup) hks hup2) nx' hnw hg hd (ts_of he (rowsL_at hbs)) hst2 k
end
end Go.Proofs.YtnpokgjehapmjaaDoor.Abs
end

section
namespace Go.Proofs.YtnpokgjehapmjaaDoor.Abs
open Go.RowKit Mem Facts
section
variable {P : Program} {tb : List Ty} {T : Nat} {e : Ty} {N : Env} {o : Oper}
/-- A type without cells. -/
def bare (P : Program) (T : TypeId) : Bool := match P.info? T with
  | some i => i.size == 0 && (match i.zero with
    | some (.agg c) => c.size == 0
    | _ => false)
  | none => false
theorem bare_is {T : TypeId} (h : bare P T = true) : ∃ i, P.info? T = some i ∧ i.size = 0 ∧ i.zero = some (.agg #[]) := by
  unfold bare at h
  split at h
  · rename_i i hi
    rw [Bool.and_eq_true] at h
    refine ⟨i, hi, by simpa using h.1, ?_⟩
    have h2 := h.2
    split at h2
    · rename_i c hc
      rw [hc]
      have : c = #[] := Array.eq_empty_of_size_eq_zero (by simpa using h2)
      rw [this]
    · cases h2
  · cases h
theorem bare_run {T : TypeId} (h : bare P T = true) (w : World) : (zeroValue T).run P w = .ok (.agg #[]) w := by
  obtain ⟨i, h1, _, h3⟩ := bare_is h
  simp [zeroValue, typeInfo, h1, h3]
theorem rep_bare {X A : Nat → Prop} {φ : Nat → Pl} {w : World} : Rep X A φ w (.agg []) (.agg #[]) := .fz (.agg rfl (fun v h => by simp at h) fun i x c h => by simp at h)
theorem rep_bare_eq {X A : Nat → Prop} {φ : Nat → Pl} {w : World} {x : Value} (h : Rep X A φ w (.agg []) x) : x = .agg #[] := by
  have key : ∀ c : Array Value, ([] : List V).length = c.size → c = #[] := fun c hc => Array.eq_empty_of_size_eq_zero hc.symm
  cases h with
  | fz h => cases h with
    | agg h1 _ _ => rw [key _ h1]
  | agg h1 _ _ => rw [key _ h1]
theorem law_alloc0 {ν : Nat} (ho : o.op = .alloc T) (hb : bare P T = true) : OpLaw P N o ⟨[], []⟩ (.loc ν 0 0) [] [ν] := fun s M A φ a w hh hr hν hd => by
  have hz := bare_run hb w
  have hrun : (execOp a.eval o).run P w = .ok (.value (.pointer (some ⟨w.heap.size, 0, none⟩))) (w.alloc (.cells #[] T)) := by
    unfold execOp; simp only [ho]; simp [Instr.alloc, newVar, newRow, go_sem, hz]
  unfold Oper.wp
  rw [hrun]
  have hbel : Below w.heap.size w (w.alloc (.cells #[] T)) := (Below.refl _ w).alloc (Nat.le_refl _) _
  obtain ⟨M', φ', h1, h2, h3⟩ := rel_alias (pl := ⟨some w.heap.size, 0, 0⟩) (ν := ν) (nx := s.nx) (v := .loc ν 0 0) (x := .pointer (some ⟨w.heap.size, 0, none⟩)) (hr.grow hbel) (hν ν (by simp)) (fun φ' hφ => by
    have := Rep.loc (X := fun b => M b ∨ N b) (A := fun n => A n ∨ n = ν) (φ := φ') (w := w.alloc (.cells #[] T)) (n := ν) (i := 0) (off := 0) (b := w.heap.size) (.inr rfl) (by rw [hφ])
    simpa using this) hd
  exact ⟨M', φ', (Stays.of_below hbel).trans h1 fun _ _ h => h, fun b hb hm => h2 b (Nat.lt_of_lt_of_le hb hbel.size) hm, h3⟩
theorem law_store0 {x y : Operand} {n i off : Nat} (ho : o.op = .store T x y) (hb : bare P T = true) : OpLaw P N o ⟨[(x, .loc n i off), (y, .agg [])], []⟩ .und [] [] := fun s M A φ a w hh hr _ hd => by
  obtain ⟨ti, h1, h2, _⟩ := bare_is hb
  obtain ⟨b, _, hx⟩ := rep_loc (hr.ev hh.a)
  have hy := rep_bare_eq (hr.ev hh.b)
  have hrun : (execOp a.eval o).run P w = .ok .skip w := by
    unfold execOp
    simp only [ho, hx, hy]
    simp [Instr.storeAt, Instr.sureAddr, storeVar, run_sizeOf' h1, h2, storeCells, Value.cells, Result.andThen]
  unfold Oper.wp
  rw [hrun]
  exact ⟨M, φ, .refl _ w, fun _ _ h => h, (rel_dst hr (.fz .und) hd).wider fun _ h => .inl h⟩
/-- A struct without fields. -/
def noFields (P : Program) (T : TypeId) : Bool := match P.underlying T with
  | some (.struct fs) => fs.size == 0
  | _ => false
theorem noFields_is {T : TypeId} (h : noFields P T = true) : P.underlying T = some (.struct #[]) := by
  unfold noFields at h
  split at h
  · rename_i fs hfs
    have e : fs = #[] := Array.eq_empty_of_size_eq_zero (by simpa using h)
    rw [hfs, e]
  · cases h
theorem law_build0 (ho : o.op = .build T #[]) (hb : bare P T = true) (hn : noFields P T = true) : OpLaw P N o ⟨[], []⟩ (.agg []) [] [] := law_pure fun s M A φ a w hh hr => by
  have hz := bare_run hb w
  have hu := noFields_is hn
  refine ⟨.agg #[], ?_, rep_bare⟩
  unfold execOp
  simp only [ho]
  simp [Instr.build, hz, Result.andThen, run_underlying hu, Instr.fill, Value.cells]
theorem law_lookNo0 {n : Nat} {es : List (V × V)} {x y : Operand} {k : V} {kt el : Nat} {ek : Ty} (htb : TbOk P tb) (ho : o.op = .lookup T x y true) (hT : nth tb T = some e) (hm : e.mp = some (kt, el)) (hkt : nth tb kt = some ek) (hq : plainK P kt ek = true) (hkk : okK tb ek k k = true) (hok : ∀ p ∈ es, okK tb ek k p.1 = true)
    (hf : findE ek k es 0 = none) (hb : bare P el = true) : OpLaw P N o ⟨[(x, .mp n), (y, k)], [(n, .map es)]⟩ (.tup [.agg [], .bool false]) [] [] := law_pure fun s M A φ a w hh hr => by
  have h1 := (run_look true htb hT hm hkt hq hkk hok hr hh.n hh.a hh.b).2 hf (.agg #[]) (bare_run hb w)
  refine ⟨.tuple #[.agg #[], .bool false], ?_, rep_pair rep_bare (.fz .bool)⟩
  unfold execOp; simp only [ho]; simp [h1, Result.andThen]
end
section
variable {P : Program} {N : Env} {l r : List Oper} {o : Oper} {tm : List (Nat × V)} {st : List (Nat × Option Blk)} {nx nt : Nat} {tr : List Tr} {K : S → List Tr → Prop} {tb : List Ty} {d T : Nat} {x y : Operand} {e ek : Ty} {m kt el : Nat}
theorem x_al0 (k : ARun P N l K r ⟨(d, .loc nx 0 0) :: tm, st, nx + 1, nt⟩ (tr ++ [trOf l o ⟨[], []⟩ []])) (ho : o.op = .alloc T := by rfl) (hb : bare P T = true := by kernel_rfl) (hg : guardV l o ⟨tm, st, nx, nt⟩ = some true := by rfl) (hd : o.dst = some d := by rfl) (hlt : Nat.blt d nt = true := by rfl) : ARun P N l K (o :: r) ⟨tm, st, nx, nt⟩ tr := r_alias rfl hg hd hlt (law_alloc0 ho hb) h0 k
theorem x_st0 {n i off : Nat} (k : ARun P N l K r ⟨tm, st, nx, nt⟩ (tr ++ [trOf l o ⟨[(x, .loc n i off), (y, .agg [])], []⟩ []])) (ho : o.op = .store T x y := by rfl) (hx : S.ev ⟨tm, st, nx, nt⟩ x = some (.loc n i off) := by rfl) (hy : S.ev ⟨tm, st, nx, nt⟩ y = some (.agg []) := by rfl) (hb : bare P T = true := by kernel_rfl) (hg : guardV l o ⟨tm, st, nx, nt⟩ = some true := by rfl) (hd : o.dst = none := by rfl) : ARun P N l K (o :: r) ⟨tm, st, nx, nt⟩ tr :=
  .on _ .und [] [] nx hg (law_store0 ho hb) (hT hx (hT hy h0)) ⟨Nat.le_refl _, fun n h => by simp at h⟩ (fun d' h => by rw [hd] at h; cases h) (by
    have e : S.eff ⟨tm, st, nx, nt⟩ o.dst .und [] nx = ⟨tm, st, nx, nt⟩ := by rw [hd]; rfl
    rw [e]; exact k)
theorem x_bd0 (k : ARun P N l K r ⟨(d, .agg []) :: tm, st, nx, nt⟩ (tr ++ [trOf l o ⟨[], []⟩ []])) (ho : o.op = .build T #[] := by rfl) (hb : bare P T = true := by kernel_rfl) (hn : noFields P T = true := by kernel_rfl) (hg : guardV l o ⟨tm, st, nx, nt⟩ = some true := by rfl) (hd : o.dst = some d := by rfl) (hlt : Nat.blt d nt = true := by rfl) : ARun P N l K (o :: r) ⟨tm, st, nx, nt⟩ tr := r_val hg hd hlt (law_build0 ho hb hn) h0 k
theorem x_lookNo0 {es : List (V × V)} {kv : V} (htb : TbOk P tb) (k : ARun P N l K r ⟨(d, .tup [.agg [], .bool false]) :: tm, st, nx, nt⟩ (tr ++ [trOf l o ⟨[(x, .mp m), (y, kv)], [(m, .map es)]⟩ []])) (ho : o.op = .lookup T x y true := by rfl) (hx : S.ev ⟨tm, st, nx, nt⟩ x = some (.mp m) := by rfl) (hy : S.ev ⟨tm, st, nx, nt⟩ y = some (kv) := by rfl) (hB : S.blk ⟨tm, st, nx, nt⟩ m = some (.map es) := by rfl) (hg : guardV l o ⟨tm, st, nx, nt⟩ = some true := by rfl) (hd : o.dst = some d := by rfl) (hlt : Nat.blt d nt = true := by rfl) (hT' : nth tb T = some e := by rfl) (hm : e.mp = some (kt, el) := by rfl) (hkt : nth tb kt = some ek := by rfl) (hq : plainK P kt ek = true := by kernel_rfl) (hkk : okK tb ek kv kv = true := by rfl) (hok : ∀ p ∈ es, okK tb ek kv p.1 = true := by exact okk_map (fun _ => rfl)) (hb : bare P el = true := by kernel_rfl) (hf : findE ek kv es 0 = none := by assumption) : ARun P N l K (o :: r) ⟨tm, st, nx, nt⟩ tr := r_val hg hd hlt (law_lookNo0 htb ho hT' hm hkt hq hkk hok hf hb) (hT hx (hT hy (hN hB h0))) k
end
end Go.Proofs.YtnpokgjehapmjaaDoor.Abs
end

section
namespace Go.Proofs.YtnpokgjehapmjaaDoor.Abs
open Go.RowKit Mem Facts

/-- Nothing in it leads to frozen memory. -/
def owV : V → Bool
  | .int _ _ | .bool _ | .str _ | .nils | .nilp | .nilf | .nili | .nilm | .und | .own _ _ _ | .loc _ _ _ | .mp _ => true
  | _ => false
def owR : V → Bool
  | .agg vs => vs.all owV
  | .tup vs => vs.all fun v => match v with
    | .agg us => us.all owV
    | v => owV v
  | v => owV v
section
variable {X X' A : Nat → Prop} {φ : Nat → Pl} {w : World}
theorem ow_fz {v : V} {x : Value} (h : owV v = true) (hf : Fz X w v x) : Fz X' w v x := by
  cases hf <;> first
    | (simp [owV] at h; done)
    | exact .bool | exact .nils | exact .nilp | exact .nilf | exact .nili | exact .nilm | exact .und
    | (rename_i hs; exact .str hs)
    | (rename_i hs; exact .int hs)
theorem ow_rep {v : V} {x : Value} (h : owV v = true) (hr : Rep X A φ w v x) : Rep X' A φ w v x := by
  cases hr with
  | fz hf => exact .fz (ow_fz h hf)
  | agg => simp [owV] at h
  | tup => simp [owV] at h
  | fn => simp [owV] at h
  | ifc => simp [owV] at h
  | own0 h1 h2 => exact .own0 h1 h2
  | own h1 h2 h3 h4 => exact .own h1 h2 h3 h4
  | loc h1 h2 => exact .loc h1 h2
  | mp h1 h2 => exact .mp h1 h2
theorem ow_agg {us : List V} {x : Value} (h : us.all owV = true) (hr : Rep X A φ w (.agg us) x) : Rep X' A φ w (.agg us) x := by
  have hat : ∀ (i : Nat) y, us[i]? = some y → owV y = true := fun i y hy => List.all_eq_true.1 h y (List.mem_of_getElem? hy)
  cases hr with
  | fz hf =>
    cases hf with
    | agg h1 h2 h3 => exact .fz (.agg h1 h2 fun i y c hy hc => ow_fz (hat i y hy) (h3 i y c hy hc))
  | agg h1 h2 h3 => exact .agg h1 h2 fun i y c hy hc => ow_rep (hat i y hy) (h3 i y c hy hc)
theorem owR_rep {v : V} {x : Value} (h : owR v = true) (hr : Rep X A φ w v x) : Rep X' A φ w v x := by
  unfold owR at h
  split at h
  · exact ow_agg h hr
  · rename_i vs
    have each : ∀ (i : Nat) y c, vs[i]? = some y → Rep X A φ w y c → Rep X' A φ w y c := fun i y c hy hc => by
      have := List.all_eq_true.1 h y (List.mem_of_getElem? hy)
      split at this
      · exact ow_agg this hc
      · exact ow_rep this hc
    cases hr with
    | fz hf =>
      cases hf with
      | tup h1 h2 => exact .tup h1 fun i y c hy hc => each i y c hy (.fz (h2 i y c hy hc))
    | tup h1 h2 => exact .tup h1 fun i y c hy hc => each i y c hy (h2 i y c hy hc)
  · exact ow_rep h hr
/-- A row in which nothing leads to frozen memory. -/
def OwB : Option Blk → Prop
  | none => True
  | some (.els _ _ xs) => ∀ x ∈ xs, ∀ u ∈ x.cells, owV u = true
  | _ => False
theorem OwB.turn {M : Nat → Prop} {pl : Pl} {k : Blk} (h : OwB (some k)) (hb : BlkAt X M A φ w pl k) : BlkAt X' M A φ w pl k := by
  cases k with
  | els T sz xs =>
    obtain ⟨h1, h2, h3, h4, h5⟩ := hb
    refine ⟨h1, h2, h3, h4, h5.imp id ?_⟩
    rintro ⟨b, cur, g1, g2, g3, g4, g5, g6, g7⟩
    refine ⟨b, cur, g1, g2, g3, g4, g5, g6, fun i j x u hx hu => ?_⟩
    obtain ⟨c, hc, hr⟩ := g7 i j x u hx hu
    exact ⟨c, hc, ow_rep (h x (List.mem_of_getElem? hx) u (List.mem_of_getElem? hu)) hr⟩
  | map es => exact h.elim
  | sit s p => exact h.elim
end
/-- The new rows' names, behind k that were handed. -/
def upN (k n : Nat) : List Nat := (List.range n).map (· + k)
theorem upN_at {k n i : Nat} (h : i < n) : nm (upN k n) i = i + k := by
  have : nth (upN k n) i = some (i + k) := by rw [nth_eq]; simp [upN, h]
  exact (nm_of this).1
theorem mcallsG_own {P : Program} {g : Glob} {f : FuncId} {us vs : List V} {bs : List Blk} {rv rv2 : V} {st' st2 : List (Option Blk)} (h : MCallsG P g f us [] rv st') (hf : frzL (fun n => bs[n]?) vs = some us) (hok : FrzOkL (fun n => bs[n]?) vs)
    (how : owR rv = true) (hows : ∀ b ∈ st', OwB b) (hr : renO (upN bs.length st'.length) rv = some rv2) (hst : RenOs (upN bs.length st'.length) st' st2) : MCallsG P g f vs bs rv2 (bs.map some ++ st2) := fun N M φ w vals hrows hlen hv => by
  obtain ⟨l1, l2⟩ := frzL_some hf
  obtain ⟨q1, q2⟩ := renO_ren hr
  have hsl := hst.len
  have hul : (upN bs.length st'.length).length = st'.length := by simp [upN]
  have hblk : ∀ n k, (S.mk [] (rowsFrom bs 0) bs.length 0).blk n = some k ↔ bs[n]? = some k := fun n k => by
    unfold S.blk
    simp only [lk_rows, Nat.zero_le, if_true, Nat.sub_zero]
    cases bs[n]? <;> simp
  have rel : Rel ⟨⟨N, g⟩, 0, fun _ => ⟨none, 0, 0⟩, []⟩ M (· < bs.length) φ ⟨[], rowsFrom bs 0, bs.length, 0⟩ ⟨#[], []⟩ w :=
    ⟨fun t v ht => by simp [lk] at ht, rfl, fun n k hk => hrows.st n k (by simp [(hblk n k).1 hk]), fun n n' k k' b e1 e2 => hrows.inj n n' k k' b (by simp [(hblk n k).1 e1]) (by simp [(hblk n' k').1 e2]), hrows.lim, hrows.dis, rfl, fun n hn => by exact absurd hn (Nat.not_lt_zero n), hrows.gl⟩
  have args : ∀ (i : Nat) u x, us[i]? = some u → vals[i]? = some x → Fz N w u x := fun i u x hu hx => by
    have hil : i < vs.length := by rw [l1]; exact (List.getElem?_eq_some_iff.1 hu).1
    obtain ⟨u', m1, m2⟩ := l2 i vs[i] (List.getElem?_eq_getElem hil)
    rw [hu] at m1; cases m1
    exact rel.frz (b := fun n => bs[n]?) (fun n k hk => (hblk n k).2 hk) (hv i vs[i] x (List.getElem?_eq_getElem hil) hx) m2 (frzOkL_at hok _ (List.getElem_mem hil))
  refine Calls.mono (h N (fun _ => False) (fun _ => ⟨none, 0, 0⟩) w vals ⟨fun n k hk => by simp at hk, fun n n' k k' b e1 => by simp at e1, fun b hb => hrows.lim b (hb.elim False.elim .inr), fun b hb => hb.elim, hrows.gl.sub fun b hb => hb.elim False.elim .inr⟩ (by rw [← l1]; exact hlen) fun i u x hu hx => .fz ((args i u x hu hx).mono (fun b _ hb => hb.elim False.elim id) (.refl _ w))) ?_
  rintro e w' ⟨x, M2, φ2, rfl, hs, hM, _, rows2, hrep⟩
  have hM : ∀ b, b < w.heap.size → ¬ M2 b := fun b hb h => hM b hb h
  have hsX : ∀ Q : Nat → Prop, Stays Q w w' := fun Q => ⟨hs.os, hs.tape, hs.output, hs.size, fun b hb _ => hs.block b hb id⟩
  have hX : ∀ b, b < w.heap.size → ((M b ∨ M2 b) ∨ N b) → M b ∨ N b := fun b hb h => h.imp (fun h => h.elim id fun h => (hM b hb h).elim) id
  let φ3 : Nat → Pl := fun n => if n < bs.length then φ n else φ2 (n - bs.length)
  have p1 : ∀ n, n < bs.length → φ3 n = φ n := fun n hn => if_pos hn
  have p2 : ∀ n, n < st'.length → φ3 (nm (upN bs.length st'.length) n) = φ2 n := fun n hn => by
    rw [upN_at hn]
    show (if n + bs.length < bs.length then _ else _) = _
    rw [if_neg (by omega), Nat.add_sub_cancel]
  have all : (bs.map some ++ st2).length = bs.length + st'.length := by simp [hsl]
  have cases2 : ∀ n k, (bs.map some ++ st2)[n]? = some (some k) → (n < bs.length ∧ bs[n]? = some k) ∨ (∃ m b, n = m + bs.length ∧ m < st'.length ∧ st'[m]? = some (some b) ∧ RenB (upN bs.length st'.length) b k) := fun n k hk => by
    by_cases hn : n < bs.length
    · rw [List.getElem?_append_left (by simpa using hn), List.getElem?_map] at hk
      refine .inl ⟨hn, ?_⟩
      cases hb : bs[n]? with
      | none => rw [hb] at hk; cases hk
      | some b => rw [hb] at hk; simpa using hk
    · rw [List.getElem?_append_right (by simpa using hn), List.length_map] at hk
      obtain ⟨b, hb, hren⟩ := hst.back (n - bs.length) k hk
      exact .inr ⟨n - bs.length, b, by omega, (List.getElem?_eq_some_iff.1 hb).1, hb, hren⟩
  refine ⟨x, fun b => M b ∨ M2 b, φ3, rfl, hsX M, fun b hb h => h.elim id fun h => (hM b hb h).elim, fun n hn => p1 n hn, ⟨fun n k hk => ?_, fun n n' k k' b e1 e2 e3 e4 => ?_, fun b hb => ?_, fun b hb hn => ?_, hrows.gl.stays (hsX _) hX⟩, ?_⟩
  · rcases cases2 n k hk with ⟨hn, hb⟩ | ⟨m, b, rfl, hm, hb, hren⟩
    · obtain ⟨g1, g2⟩ := hrows.st n k (by simp [hb])
      refine ⟨by rw [all]; omega, ?_⟩
      rw [p1 n hn]
      exact g2.mono hX (hsX _) (fun n h => by rw [all]; omega) (fun n h => p1 n h) (fun _ h => .inl h) fun b _ => by
        by_cases hbs : b < w.heap.size
        · exact hs.block b hbs id
        · rename_i hpl
          have := hrows.lim b (.inl (blk_some g2 hpl))
          omega
    · obtain ⟨g1, g2⟩ := rows2.st m b hb
      refine ⟨by rw [all]; omega, ?_⟩
      have e : φ3 (m + bs.length) = φ2 m := by rw [← upN_at (k := bs.length) hm]; exact p2 m hm
      rw [e]
      exact BlkAt.ren_on (X := fun b => (M b ∨ M2 b) ∨ N b) (fun _ _ h => h) hren (fun n hn _ => ⟨by rw [all, upN_at (by omega)]; omega, p2 n (by omega)⟩) (fun _ _ h => .inr h) ((hows _ (List.mem_of_getElem? hb)).turn g2)
  · rcases cases2 n k e1 with ⟨hn, hb⟩ | ⟨m, c, rfl, hm, hb, _⟩ <;> rcases cases2 n' k' e2 with ⟨hn', hb'⟩ | ⟨m', c', rfl, hm', hb', _⟩
    · rw [p1 n hn] at e3
      rw [p1 n' hn'] at e4
      exact hrows.inj n n' k k' b (by simp [hb]) (by simp [hb']) e3 e4
    · rw [p1 n hn] at e3
      rw [← upN_at (k := bs.length) hm', p2 m' hm'] at e4
      exact (hM b (hrows.lim b (.inl (blk_some (hrows.st n k (by simp [hb])).2 e3))) (blk_some (rows2.st m' c' hb').2 e4)).elim
    · rw [p1 n' hn'] at e4
      rw [← upN_at (k := bs.length) hm, p2 m hm] at e3
      exact (hM b (hrows.lim b (.inl (blk_some (hrows.st n' k' (by simp [hb'])).2 e4))) (blk_some (rows2.st m c hb).2 e3)).elim
    · rw [← upN_at (k := bs.length) hm, p2 m hm] at e3
      rw [← upN_at (k := bs.length) hm', p2 m' hm'] at e4
      rw [rows2.inj m m' c c' b hb hb' e3 e4]
  · rcases hb with (hb | hb) | hb
    · exact Nat.lt_of_lt_of_le (hrows.lim b (.inl hb)) hs.size
    · exact rows2.lim b (.inl hb)
    · exact rows2.lim b (.inr hb)
  · rcases hb with hb | hb
    · exact hrows.dis b hb hn
    · exact rows2.dis b hb hn
  · rw [q1]
    exact (owR_rep how hrep).unren fun n hn hl => ⟨by rw [all, upN_at (by have := q2 n hn; omega)]; have := q2 n hn; omega, p2 n (by have := q2 n hn; omega)⟩
theorem mcalls_own {P : Program} {f : FuncId} {us vs : List V} {bs : List Blk} {rv rv2 : V} {st' st2 : List (Option Blk)} (h : MCalls P f us [] rv st') (hf : frzL (fun n => bs[n]?) vs = some us) (hok : FrzOkL (fun n => bs[n]?) vs)
    (how : owR rv = true) (hows : ∀ b ∈ st', OwB b) (hr : renO (upN bs.length st'.length) rv = some rv2) (hst : RenOs (upN bs.length st'.length) st' st2) : MCalls P f vs bs rv2 (bs.map some ++ st2) := fun g => mcallsG_own (h g) hf hok how hows hr hst
end Go.Proofs.YtnpokgjehapmjaaDoor.Abs
end

section
namespace Go.Proofs.YtnpokgjehapmjaaDoor.Abs
open Go.RowKit Mem Facts
section
variable {P : Program} {N : Env} {M : Nat → Prop} {o : Oper} {s : S} {a : Act} {x y : Operand} {w : World}
end
section
variable {P : Program} {N : Env} {l r : List Oper} {o : Oper} {tm : List (Nat × V)} {st : List (Nat × Option Blk)} {nx nt : Nat} {tr : List Tr} {K : S → List Tr → Prop} {d : Nat} {t t' : TypeId} {x y : Operand} {a b : Int}
end
end Go.Proofs.YtnpokgjehapmjaaDoor.Abs
end

section
namespace Go.Proofs.YtnpokgjehapmjaaDoor.Abs
open Go.RowKit Mem Facts
section
variable {P : Program} {N : Env} {M : Nat → Prop} {o : Oper} {s : S} {a : Act} {x y : Operand} {w : World}
theorem law_max {t t' : TypeId} {m n q : Int} (ho : o.op = .call { callee := .builtin .max, args := #[x, y], argTypes := #[t, t'] }) (h : (if n > m then n else m) = q) (hq : InR .i64 q) : OpLaw P N o ⟨[(x, .int .i64 m), (y, .int .i64 n)], []⟩ (.int .i64 q) [] [] := law_pure fun s M A φ ac w hh hr => by
  refine ⟨.int .i64 q, ?_, .fz (.int hq)⟩
  unfold execOp
  simp only [ho, resolve, Sem.run_bind, Sem.run_pure, Result.andThen_ok, invoke, builtin, List.map_toArray, List.map_cons, List.map_nil, hr.int hh.a, hr.int hh.b]
  subst h
  simp [Builtin.max_, Builtin.max2]
end
section
variable {P : Program} {N : Env} {l r : List Oper} {o : Oper} {tm : List (Nat × V)} {st : List (Nat × Option Blk)} {nx nt : Nat} {tr : List Tr} {K : S → List Tr → Prop} {d : Nat} {t t' : TypeId} {x y : Operand} {a b : Int}
theorem x_max (q : Int) (k : ARun P N l K r ⟨(d, .int .i64 q) :: tm, st, nx, nt⟩ (tr ++ [trOf l o ⟨[(x, .int .i64 a), (y, .int .i64 b)], []⟩ []])) (ho : o.op = .call { callee := .builtin .max, args := #[x, y], argTypes := #[t, t'] } := by rfl) (hx : S.ev ⟨tm, st, nx, nt⟩ x = some (.int .i64 a) := by rfl) (hy : S.ev ⟨tm, st, nx, nt⟩ y = some (.int .i64 b) := by rfl) (hg : guardV l o ⟨tm, st, nx, nt⟩ = some true := by rfl) (hd : o.dst = some d := by rfl) (hlt : Nat.blt d nt = true := by rfl) (h : (if b > a then b else a) = q := by first | assumption | omega) (hq : -9223372036854775808 ≤ q ∧ q ≤ 9223372036854775807 := by omega) : ARun P N l K (o :: r) ⟨tm, st, nx, nt⟩ tr :=
  r_val hg hd hlt (law_max ho h ⟨by simp only [rng]; omega, by simp only [rng]; omega⟩) (hT hx (hT hy h0)) k
end
end Go.Proofs.YtnpokgjehapmjaaDoor.Abs
namespace Go.Proofs.YtnpokgjehapmjaaDoor.ConM
open Go.RowKit Mem Abs Scan BitsP ConP ConQ ConC

abbrev TI : Nat := 3
abbrev rI (U : List Nat) : Blk := .els TI 1 (U.map natV)
def ekI : Ty := (nth tb 3).get rfl
def mkE (v : Nat) : Abs.V × Abs.V := (natV v, .agg [])
theorem eq_nat (c d : Nat) : eqK ekI (natV c) (natV d) = decide (d = c) := by
  have h : eqK ekI (natV c) (natV d) = decide ((c : Int) = (d : Int)) := rfl
  rw [h]
  by_cases e : d = c
  · simp [e]
  · rw [decide_eq_false e, decide_eq_false (by omega)]
theorem find_by {α : Type} {ek : Ty} {f : α → Abs.V × Abs.V} {k : Abs.V} {p : α → Bool} (h : ∀ a, eqK ek k (f a).1 = p a) : ∀ (M : List α) (i : Nat), findE ek k (M.map f) i = (M.findIdx? p).map (· + i)
  | [], i => rfl
  | a :: M, i => by
    rw [List.map_cons, findE, h a, List.findIdx?_cons]
    cases p a with
    | true => simp
    | false =>
      rw [cond_false, find_by h M (i + 1)]
      cases M.findIdx? p <;> simp <;> omega
theorem find_n (v : Nat) (U : List Nat) : (U.contains v = false ∧ findE ekI (natV v) (U.map mkE) 0 = none) ∨ (U.contains v = true ∧ ∃ i, findE ekI (natV v) (U.map mkE) 0 = some i ∧ (U.map mkE)[i]? = some (natV v, .agg [])) := by
  have e := find_by (f := mkE) (k := natV v) (p := fun d => decide (d = v)) (fun a => eq_nat v a) U 0
  cases hc : U.findIdx? (fun d => decide (d = v)) with
  | none =>
    rw [hc] at e
    rw [List.findIdx?_eq_none_iff] at hc
    refine .inl ⟨?_, e⟩
    rw [List.contains_eq_any_beq, List.any_eq_false]
    intro x hx
    have := hc x hx
    simp at this
    simp
    exact fun h => this h.symm
  | some i =>
    rw [hc] at e
    obtain ⟨hi, h1, _⟩ := List.findIdx?_eq_some_iff_getElem.1 hc
    have h2 : U[i] = v := by simpa using h1
    refine .inr ⟨?_, i, e, ?_⟩
    · rw [List.contains_iff_mem, ← h2]; exact List.getElem_mem hi
    · rw [List.getElem?_map, List.getElem?_eq_getElem hi, h2]; rfl
set_option maxRecDepth 100000 in
set_option maxHeartbeats 4000000 in
theorem setOf_m {U : List Nat} (hU : RightN U) : MCalls Tryd.prog 24 [natsV U] [] (.mp 0) [some (.map (U.map mkE))] := by
  have hml : (U.map natV).length = U.length := List.length_map _
  have hf := right_few hU
  refine mfun tb_ok Tryd.func24 rfl Tryd.ntmps24 Tryd.results24 rfl rfl rfl rfl fun N pl => ?_
  repeat' (first | refine zt ?_ | (refine isR ?_; first | refine zo ?_ | refine x_bd0 ?_ | refine zA ?_ | refine zL ?_ | refine zc1 ?_ | refine zI ?_ | refine zM ?_ | (refine zs1 ?_ ?_ <;> intro hc)) | refine awp_split rfl (fun hb => ?_) (fun hb => ?_) | refine zr ?_ | exact x_le)
  refine awp_forN (fun k => ⟨[(3, .mp 0), (7, natsV U), (8, natV U.length), (9, natV k)], [(0, some (.map ((U.take k).map mkE)))], 1, 18⟩) (fun k => k ≤ U.length) U.length 0 (by exact x_le) (Nat.zero_le _) ?_
  intro k hk
  by_cases hk2 : k < U.length
  · have hx : U[k]? = some U[k] := by simp [hk2]
    have ht : U.take (k + 1) = U.take k ++ [U[k]] := by rw [List.take_add_one, hx]; rfl
    have hnew : findE ekI (natV U[k]) ((U.take k).map mkE) 0 = none := by
      rcases find_n U[k] (U.take k) with ⟨_, h⟩ | ⟨h, _⟩
      · exact h
      · rw [List.contains_iff_mem] at h
        obtain ⟨j, hj, e⟩ := List.mem_iff_getElem.1 h
        have hj2 : j < k := by simp at hj; omega
        have := List.pairwise_iff_getElem.1 hU.1 j k (by omega) hk2 hj2
        rw [List.getElem_take] at e
        omega
    generalize U[k] = x at *
    have hm := at_map (f := natV) hx
    generalize U.take (k + 1) = B at *
    generalize U.take k = C at *
    subst ht
    repeat' (first | refine zt ?_ | (refine isR ?_; first | refine zo ?_ | refine x_bd0 ?_ | refine x_putNew mkE (x) tb_ok ?_ | refine zA ?_ | refine zL ?_ | refine zc1 ?_ | refine zI ?_ | refine zM ?_ | (refine zs1 ?_ ?_ <;> intro hc)) | refine awp_split rfl (fun hb => ?_) (fun hb => ?_) | refine zr ?_ | exact x_le)
    refine ⟨by omega, hk2, ?_⟩
    exact (by exact x_len [0])
  · obtain rfl : k = U.length := by omega
    rw [List.take_length]
    repeat' (first | refine zt ?_ | (refine isR ?_; first | refine zo ?_ | refine zA ?_ | refine zL ?_ | refine zc1 ?_ | refine zI ?_ | (refine zs1 ?_ ?_ <;> intro hc)) | refine awp_split rfl (fun hb => ?_) (fun hb => ?_) | refine x_mret [0] ?_ ?_ | refine x_mnor [0] ?_ ?_ | refine zr ?_ | exact x_le)
    · rfl
    · exact .on (.map (map_nl fun _ => rfl)) .nil
def pick (k : Bool → Bool → Bool) (U W : List Nat) (n : Nat) : List Nat := (List.range' 1 n).filter fun v => k (U.contains v) (W.contains v)
theorem pick_on (k : Bool → Bool → Bool) (U W : List Nat) (n : Nat) : pick k U W (n + 1) = pick k U W n ++ if k (U.contains (n + 1)) (W.contains (n + 1)) = true then [n + 1] else [] := by
  unfold pick
  rw [List.range'_concat, List.filter_append, Nat.one_mul, Nat.add_comm 1 n]
  congr 1
  rw [List.filter_cons, List.filter_nil]
theorem pick_len (k : Bool → Bool → Bool) (U W : List Nat) (n : Nat) : (pick k U W n).length ≤ n := Nat.le_trans (List.length_filter_le _ _) (by simp)
/-- A consent whose vendors are a row of one's own. -/
abbrev conW (g : Nat) (P : Nat → Bool) (k m : Nat) : Abs.V := .agg [natV g, .bool (P 0), .bool (P 1), .bool (P 2), .bool (P 3), .bool (P 4), .bool (P 5), .bool (P 6), .bool (P 7), .bool (P 8), .bool (P 9), .own k 0 m]
abbrev conZ (P : Nat → Bool) (g : Nat) (v : Abs.V) : Abs.V := .agg [natV g, .bool (P 0), .bool (P 1), .bool (P 2), .bool (P 3), .bool (P 4), .bool (P 5), .bool (P 6), .bool (P 7), .bool (P 8), .bool (P 9), v]
theorem awp_share {P : Program} {N : Env} {c : Code} {Q : Exit → S → Prop} {s1 : S} {G : Prop} (p : Prop) (main : (p → AWp P N c Q s1) → G) (k : p → AWp P N c Q s1) : G := main k
theorem awp_cutRH {P : Program} {N : Env} {id : Nat} {l : Array Oper} {d : Bool} {x y : Code} {Q : Exit → S → Prop} {s s1 : S} (k : AWp P N (.seq (.seq (.region id l d) x) y) Q s1) (h : LeI N.K s1 s) : AWp P N (.seq (.seq (.region id l d) x) y) Q s := awp_lei h k
theorem awp_cutRS {P : Program} {N : Env} {id : Nat} {l : Array Oper} {d : Bool} {x : Code} {Q : Exit → S → Prop} {s s1 : S} (k : AWp P N (.seq (.region id l d) x) Q s1) (h : LeI N.K s1 s) : AWp P N (.seq (.region id l d) x) Q s := awp_lei h k
abbrev TN : Nat := 25
set_option maxRecDepth 100000 in
set_option maxHeartbeats 4000000 in
theorem keep1_v {x y : Bool} : ACalls Tryd.prog 12 [.bool x, .bool y] (.bool (and x y)) := by
  cases x <;> cases y
  all_goals
    refine fun2 tb_ok Tryd.func12 rfl Tryd.ntmps12 Tryd.results12 rfl fun N => ?_
    repeat' (first | refine zt ?_ | (refine isR ?_; first | refine zo ?_) | refine awp_split rfl (fun hb => ?_) (fun hb => ?_) | refine zr ?_ | exact x_le)
    all_goals rfl
set_option maxRecDepth 100000 in
set_option maxHeartbeats 4000000 in
theorem both1_m {g1 g2 : Nat} {P Q : Nat → Bool} {U W : List Nat} (h1 : g1 ≤ 68719476735) (h2 : g2 ≤ 68719476735) (hU : RightN U) (hW : RightN W) :
    MCalls Tryd.prog 11 [conN g1 P U, conN g2 Q W, .fn (.func 12) [] []] [] (.tup [conW (max g1 g2) (fun i => and (P i) (Q i)) 0 (pick and U W 40).length, .int .i64 0]) [some (rI (pick and U W 40))] := by
  have c1 := check_v (g := (g1 : Int)) (P := P) (L := toI U)
  have c2 := check_v (g := (g2 : Int)) (P := Q) (L := toI W)
  rw [nat_check h1 hU, ← conN_int] at c1
  rw [nat_check h2 hW, ← conN_int] at c2
  have c3 := setOf_m hU
  have c4 := setOf_m hW
  have hmax : (if (g2 : Int) > (g1 : Int) then (g2 : Int) else (g1 : Int)) = ((max g1 g2 : Nat) : Int) := by omega
  have hmx : max g1 g2 ≤ 68719476735 := by omega
  generalize max g1 g2 = gm at *
  refine mfun tb_ok Tryd.func11 rfl Tryd.ntmps11 Tryd.results11 rfl rfl rfl rfl fun N pl => ?_
  apply awp_share (s1 := ⟨[(2, .fn (.func 12) [] []), (6, .loc 0 0 0), (11, .loc 3 0 0), (14, .mp 4), (15, .mp 5)], [(0, some (.els TN 12 [noC])), (3, some (.els TN 12 [conZ (fun i => and (P i) (Q i)) gm .nils])), (4, some (.map (U.map mkE))), (5, some (.map (W.map mkE)))], 6, 90⟩) True
  case main =>
    intro H
    have H := H trivial
    repeat' (first | ((with_reducible refine awp_cutRH (id := 15) H ?_); exact x_le) | ((with_reducible refine awp_cutRS (id := 15) H ?_); exact x_le) | with_reducible refine rounds_on ?_ | with_reducible refine awp_rounds 11 ?_ | refine zt ?_ | (refine isR ?_; first | refine zo ?_ | refine zk c1 ?_ | refine zk c2 ?_ | refine x_max (gm : Int) ?_ | refine x_callv (keep1_v _) ?_ | refine x_callv (keep1_v) ?_ | refine x_m [] [4] (c3 _) ?_ | refine x_m0 [] [4] (c3 _) ?_ | refine x_m [] [4] (c3) ?_ | refine x_m0 [] [4] (c3) ?_ | refine x_m [] [5] (c4 _) ?_ | refine x_m0 [] [5] (c4 _) ?_ | refine x_m [] [5] (c4) ?_ | refine x_m0 [] [5] (c4) ?_ | refine x_bs tb_ok ?_ | refine zA ?_ | refine zc1 ?_ | refine zc2 ?_ | refine zc6 ?_ | refine zI ?_ | (refine zs1 ?_ ?_ <;> intro hc) | (refine zs2 ?_ ?_ <;> intro hc) | (refine zs6 ?_ ?_ <;> intro hc)) | refine awp_split rfl (fun hb => ?_) (fun hb => ?_) | refine zr ?_ | exact x_le)
  case k =>
    intro _
    repeat' (first | refine zt ?_ | (refine isR ?_; first | refine zo ?_ | refine x_bs tb_ok ?_ | refine zA ?_ | refine zc1 ?_ | refine zc2 ?_ | refine zc6 ?_ | refine zI ?_ | (refine zs1 ?_ ?_ <;> intro hc) | (refine zs2 ?_ ?_ <;> intro hc) | (refine zs6 ?_ ?_ <;> intro hc)) | refine awp_split rfl (fun hb => ?_) (fun hb => ?_) | refine zr ?_ | exact x_le)
    refine awp_nameR 3 11 TI 1 rfl rfl (by decide) rfl ?_
    refine awp_forN (fun k => ⟨[(2, .fn (.func 12) [] []), (6, .loc 0 0 0), (11, .loc 3 0 0), (14, .mp 4), (15, .mp 5), (16, natV (k + 1))], [(0, some (.els TN 12 [noC])), (3, some (.els TN 12 [conW gm (fun i => and (P i) (Q i)) 6 (pick and U W k).length])), (4, some (.map (U.map mkE))), (5, some (.map (W.map mkE))), (6, some (rI (pick and U W k)))], 7, 90⟩) (fun k => k ≤ 40) 40 0 (by exact x_le) (by decide) ?_
    intro k hk
    by_cases hk2 : k < 40
    · have hp := pick_on and U W k
      have hl := pick_len and U W k
      have f1 := find_n (k + 1) U
      have f2 := find_n (k + 1) W
      generalize pick and U W (k + 1) = B at *
      generalize pick and U W k = C at *
      generalize U.contains (k + 1) = b1 at *
      generalize W.contains (k + 1) = b2 at *
      rcases f1 with ⟨rfl, f1⟩ | ⟨rfl, i, f1, f1'⟩ <;> rcases f2 with ⟨rfl, f2⟩ | ⟨rfl, j, f2, f2'⟩
      · rw [if_neg (by decide), List.append_nil] at hp
        subst hp
        repeat' (first | refine zt ?_ | (refine isR ?_; first | refine zo ?_ | refine x_lookNo0 tb_ok ?_ | refine x_al0 ?_ | refine x_st0 ?_ | refine x_callv (keep1_v _) ?_ | refine x_callv (keep1_v) ?_ | refine x_app natV (a1 := (k + 1)) tb_ok ?_ | refine x_bs tb_ok ?_ | refine zA ?_ | refine zc1 ?_ | refine zc2 ?_ | refine zc6 ?_ | refine zI ?_ | refine zM ?_ | (refine zs1 ?_ ?_ <;> intro hc) | (refine zs2 ?_ ?_ <;> intro hc) | (refine zs6 ?_ ?_ <;> intro hc)) | refine awp_split rfl (fun hb => ?_) (fun hb => ?_) | refine zr ?_ | exact x_le)
        refine ⟨by omega, hk2, ?_⟩
        exact (by exact x_len [0, 1, 2, 3, 4, 5, 6])
      · rw [if_neg (by decide), List.append_nil] at hp
        subst hp
        repeat' (first | refine zt ?_ | (refine isR ?_; first | refine zo ?_ | refine x_lookNo0 tb_ok ?_ | refine x_al0 ?_ | refine x_st0 ?_ | refine x_callv (keep1_v _) ?_ | refine x_callv (keep1_v) ?_ | refine x_app natV (a1 := (k + 1)) tb_ok ?_ | refine x_bs tb_ok ?_ | refine zA ?_ | refine zc1 ?_ | refine zc2 ?_ | refine zc6 ?_ | refine zI ?_ | refine zM ?_ | (refine zs1 ?_ ?_ <;> intro hc) | (refine zs2 ?_ ?_ <;> intro hc) | (refine zs6 ?_ ?_ <;> intro hc)) | refine awp_split rfl (fun hb => ?_) (fun hb => ?_) | refine zr ?_ | exact x_le)
        refine ⟨by omega, hk2, ?_⟩
        exact (by exact x_len [0, 1, 2, 3, 4, 5, 6])
      · rw [if_neg (by decide), List.append_nil] at hp
        subst hp
        repeat' (first | refine zt ?_ | (refine isR ?_; first | refine zo ?_ | refine x_lookNo0 tb_ok ?_ | refine x_al0 ?_ | refine x_st0 ?_ | refine x_callv (keep1_v _) ?_ | refine x_callv (keep1_v) ?_ | refine x_app natV (a1 := (k + 1)) tb_ok ?_ | refine x_bs tb_ok ?_ | refine zA ?_ | refine zc1 ?_ | refine zc2 ?_ | refine zc6 ?_ | refine zI ?_ | refine zM ?_ | (refine zs1 ?_ ?_ <;> intro hc) | (refine zs2 ?_ ?_ <;> intro hc) | (refine zs6 ?_ ?_ <;> intro hc)) | refine awp_split rfl (fun hb => ?_) (fun hb => ?_) | refine zr ?_ | exact x_le)
        refine ⟨by omega, hk2, ?_⟩
        exact (by exact x_len [0, 1, 2, 3, 4, 5, 6])
      · rw [if_pos (by decide)] at hp
        subst hp
        repeat' (first | refine zt ?_ | (refine isR ?_; first | refine zo ?_ | refine x_lookNo0 tb_ok ?_ | refine x_al0 ?_ | refine x_st0 ?_ | refine x_callv (keep1_v _) ?_ | refine x_callv (keep1_v) ?_ | refine x_app natV (a1 := (k + 1)) tb_ok ?_ | refine x_bs tb_ok ?_ | refine zA ?_ | refine zc1 ?_ | refine zc2 ?_ | refine zc6 ?_ | refine zI ?_ | refine zM ?_ | (refine zs1 ?_ ?_ <;> intro hc) | (refine zs2 ?_ ?_ <;> intro hc) | (refine zs6 ?_ ?_ <;> intro hc)) | refine awp_split rfl (fun hb => ?_) (fun hb => ?_) | refine zr ?_ | exact x_le)
        refine ⟨by omega, hk2, ?_⟩
        exact (by exact x_len [0, 1, 2, 3, 4, 5, 9])
    · obtain rfl : k = 40 := by omega
      repeat' (first | refine zt ?_ | (refine isR ?_; first | refine zo ?_ | refine x_bs tb_ok ?_ | refine zA ?_ | refine zc1 ?_ | refine zc2 ?_ | refine zc6 ?_ | refine zI ?_ | (refine zs1 ?_ ?_ <;> intro hc) | (refine zs2 ?_ ?_ <;> intro hc) | (refine zs6 ?_ ?_ <;> intro hc)) | refine awp_split rfl (fun hb => ?_) (fun hb => ?_) | refine x_mret [6] ?_ ?_ | refine x_mnor [6] ?_ ?_ | refine zr ?_ | exact x_le)
      · rfl
      · exact .on (.same (nl_map fun _ => rfl)) .nil
set_option maxRecDepth 100000 in
set_option maxHeartbeats 4000000 in
theorem meet_m {g1 g2 : Nat} {P Q : Nat → Bool} {U W : List Nat} (h1 : g1 ≤ 68719476735) (h2 : g2 ≤ 68719476735) (hU : RightN U) (hW : RightN W) :
    MCalls Tryd.prog 4 [conN g1 P U, conN g2 Q W] [] (.tup [conW (max g1 g2) (fun i => and (P i) (Q i)) 0 (pick and U W 40).length, .int .i64 0]) [some (rI (pick and U W 40))] := by
  have c1 := both1_m (P := P) (Q := Q) h1 h2 hU hW
  generalize max g1 g2 = gm at *
  generalize pick and U W 40 = B at *
  refine mfun tb_ok Tryd.func4 rfl Tryd.ntmps4 Tryd.results4 rfl rfl rfl rfl fun N pl => ?_
  repeat' (first | refine zt ?_ | (refine isR ?_; first | refine zo ?_ | refine x_m [] [1] (c1 _) ?_ | refine x_m0 [] [1] (c1 _) ?_ | refine x_m [] [1] (c1) ?_ | refine x_m0 [] [1] (c1) ?_) | refine awp_split rfl (fun hb => ?_) (fun hb => ?_) | refine x_mret [1] ?_ ?_ | refine x_mnor [1] ?_ ?_ | refine zr ?_ | exact x_le)
  · rfl
  · exact .on (.same (nl_map fun _ => rfl)) .nil
set_option maxRecDepth 100000 in
set_option maxHeartbeats 4000000 in
theorem bothNo1_v {g1 g2 : Int} {P Q : Nat → Bool} {L K : List Int} {e : Nat} (h0 : e ≠ 0) (he : (if GrantP.check g1 L ≠ 0 then GrantP.check g1 L else GrantP.check g2 K) = e) :
    ACalls Tryd.prog 11 [conI g1 P L, conI g2 Q K, .fn (.func 12) [] []] (.tup [noC, natV e]) := by
  have c1 := check_v (g := g1) (P := P) (L := L)
  have c2 := check_v (g := g2) (P := Q) (L := K)
  by_cases h1 : GrantP.check g1 L = 0
  · rw [if_neg (by rw [h1]; simp)] at he
    rw [h1] at c1
    subst he
    generalize GrantP.check g2 K = z at *
    refine fun3 tb_ok Tryd.func11 rfl Tryd.ntmps11 Tryd.results11 rfl fun N => ?_
    repeat' (first | with_reducible refine rounds_on ?_ | with_reducible refine awp_rounds 3 ?_ | refine zt ?_ | (refine isR ?_; first | refine zo ?_ | refine zk c1 ?_ | refine zk c2 ?_ | refine x_bs tb_ok ?_ | refine zA ?_ | refine zc1 ?_ | refine zc2 ?_ | refine zc6 ?_ | refine zI ?_ | (refine zs1 ?_ ?_ <;> intro hc) | (refine zs2 ?_ ?_ <;> intro hc) | (refine zs6 ?_ ?_ <;> intro hc)) | refine awp_split rfl (fun hb => ?_) (fun hb => ?_) | refine zr ?_ | exact x_le)
    all_goals first | rfl | (exfalso; omega)
  · rw [if_pos h1] at he
    subst he
    generalize GrantP.check g1 L = z at *
    refine fun3 tb_ok Tryd.func11 rfl Tryd.ntmps11 Tryd.results11 rfl fun N => ?_
    repeat' (first | with_reducible refine rounds_on ?_ | with_reducible refine awp_rounds 3 ?_ | refine zt ?_ | (refine isR ?_; first | refine zo ?_ | refine zk c1 ?_ | refine zk c2 ?_ | refine x_bs tb_ok ?_ | refine zA ?_ | refine zc1 ?_ | refine zc2 ?_ | refine zc6 ?_ | refine zI ?_ | (refine zs1 ?_ ?_ <;> intro hc) | (refine zs2 ?_ ?_ <;> intro hc) | (refine zs6 ?_ ?_ <;> intro hc)) | refine awp_split rfl (fun hb => ?_) (fun hb => ?_) | refine zr ?_ | exact x_le)
    all_goals first | rfl | (exfalso; omega)
set_option maxRecDepth 100000 in
set_option maxHeartbeats 4000000 in
theorem meetNo_v {g1 g2 : Int} {P Q : Nat → Bool} {L K : List Int} {e : Nat} (h0 : e ≠ 0) (he : (if GrantP.check g1 L ≠ 0 then GrantP.check g1 L else GrantP.check g2 K) = e) :
    ACalls Tryd.prog 4 [conI g1 P L, conI g2 Q K] (.tup [noC, natV e]) := by
  have c1 := bothNo1_v (P := P) (Q := Q) h0 he
  refine fun2 tb_ok Tryd.func4 rfl Tryd.ntmps4 Tryd.results4 rfl fun N => ?_
  repeat' (first | refine zt ?_ | (refine isR ?_; first | refine zo ?_ | refine zk c1 ?_) | refine awp_split rfl (fun hb => ?_) (fun hb => ?_) | refine zr ?_ | exact x_le)
  all_goals rfl
set_option maxRecDepth 100000 in
set_option maxHeartbeats 4000000 in
theorem keep2_v {x y : Bool} : ACalls Tryd.prog 13 [.bool x, .bool y] (.bool (or x y)) := by
  cases x <;> cases y
  all_goals
    refine fun2 tb_ok Tryd.func13 rfl Tryd.ntmps13 Tryd.results13 rfl fun N => ?_
    repeat' (first | refine zt ?_ | (refine isR ?_; first | refine zo ?_) | refine awp_split rfl (fun hb => ?_) (fun hb => ?_) | refine zr ?_ | exact x_le)
    all_goals rfl
set_option maxRecDepth 100000 in
set_option maxHeartbeats 4000000 in
theorem both2_m {g1 g2 : Nat} {P Q : Nat → Bool} {U W : List Nat} (h1 : g1 ≤ 68719476735) (h2 : g2 ≤ 68719476735) (hU : RightN U) (hW : RightN W) :
    MCalls Tryd.prog 11 [conN g1 P U, conN g2 Q W, .fn (.func 13) [] []] [] (.tup [conW (max g1 g2) (fun i => or (P i) (Q i)) 0 (pick or U W 40).length, .int .i64 0]) [some (rI (pick or U W 40))] := by
  have c1 := check_v (g := (g1 : Int)) (P := P) (L := toI U)
  have c2 := check_v (g := (g2 : Int)) (P := Q) (L := toI W)
  rw [nat_check h1 hU, ← conN_int] at c1
  rw [nat_check h2 hW, ← conN_int] at c2
  have c3 := setOf_m hU
  have c4 := setOf_m hW
  have hmax : (if (g2 : Int) > (g1 : Int) then (g2 : Int) else (g1 : Int)) = ((max g1 g2 : Nat) : Int) := by omega
  have hmx : max g1 g2 ≤ 68719476735 := by omega
  generalize max g1 g2 = gm at *
  refine mfun tb_ok Tryd.func11 rfl Tryd.ntmps11 Tryd.results11 rfl rfl rfl rfl fun N pl => ?_
  apply awp_share (s1 := ⟨[(2, .fn (.func 13) [] []), (6, .loc 0 0 0), (11, .loc 3 0 0), (14, .mp 4), (15, .mp 5)], [(0, some (.els TN 12 [noC])), (3, some (.els TN 12 [conZ (fun i => or (P i) (Q i)) gm .nils])), (4, some (.map (U.map mkE))), (5, some (.map (W.map mkE)))], 6, 90⟩) True
  case main =>
    intro H
    have H := H trivial
    repeat' (first | ((with_reducible refine awp_cutRH (id := 15) H ?_); exact x_le) | ((with_reducible refine awp_cutRS (id := 15) H ?_); exact x_le) | with_reducible refine rounds_on ?_ | with_reducible refine awp_rounds 11 ?_ | refine zt ?_ | (refine isR ?_; first | refine zo ?_ | refine zk c1 ?_ | refine zk c2 ?_ | refine x_max (gm : Int) ?_ | refine x_callv (keep2_v _) ?_ | refine x_callv (keep2_v) ?_ | refine x_m [] [4] (c3 _) ?_ | refine x_m0 [] [4] (c3 _) ?_ | refine x_m [] [4] (c3) ?_ | refine x_m0 [] [4] (c3) ?_ | refine x_m [] [5] (c4 _) ?_ | refine x_m0 [] [5] (c4 _) ?_ | refine x_m [] [5] (c4) ?_ | refine x_m0 [] [5] (c4) ?_ | refine x_bs tb_ok ?_ | refine zA ?_ | refine zc1 ?_ | refine zc2 ?_ | refine zc6 ?_ | refine zI ?_ | (refine zs1 ?_ ?_ <;> intro hc) | (refine zs2 ?_ ?_ <;> intro hc) | (refine zs6 ?_ ?_ <;> intro hc)) | refine awp_split rfl (fun hb => ?_) (fun hb => ?_) | refine zr ?_ | exact x_le)
  case k =>
    intro _
    repeat' (first | refine zt ?_ | (refine isR ?_; first | refine zo ?_ | refine x_bs tb_ok ?_ | refine zA ?_ | refine zc1 ?_ | refine zc2 ?_ | refine zc6 ?_ | refine zI ?_ | (refine zs1 ?_ ?_ <;> intro hc) | (refine zs2 ?_ ?_ <;> intro hc) | (refine zs6 ?_ ?_ <;> intro hc)) | refine awp_split rfl (fun hb => ?_) (fun hb => ?_) | refine zr ?_ | exact x_le)
    refine awp_nameR 3 11 TI 1 rfl rfl (by decide) rfl ?_
    refine awp_forN (fun k => ⟨[(2, .fn (.func 13) [] []), (6, .loc 0 0 0), (11, .loc 3 0 0), (14, .mp 4), (15, .mp 5), (16, natV (k + 1))], [(0, some (.els TN 12 [noC])), (3, some (.els TN 12 [conW gm (fun i => or (P i) (Q i)) 6 (pick or U W k).length])), (4, some (.map (U.map mkE))), (5, some (.map (W.map mkE))), (6, some (rI (pick or U W k)))], 7, 90⟩) (fun k => k ≤ 40) 40 0 (by exact x_le) (by decide) ?_
    intro k hk
    by_cases hk2 : k < 40
    · have hp := pick_on or U W k
      have hl := pick_len or U W k
      have f1 := find_n (k + 1) U
      have f2 := find_n (k + 1) W
      generalize pick or U W (k + 1) = B at *
      generalize pick or U W k = C at *
      generalize U.contains (k + 1) = b1 at *
      generalize W.contains (k + 1) = b2 at *
      rcases f1 with ⟨rfl, f1⟩ | ⟨rfl, i, f1, f1'⟩ <;> rcases f2 with ⟨rfl, f2⟩ | ⟨rfl, j, f2, f2'⟩
      · rw [if_neg (by decide), List.append_nil] at hp
        subst hp
        repeat' (first | refine zt ?_ | (refine isR ?_; first | refine zo ?_ | refine x_lookNo0 tb_ok ?_ | refine x_al0 ?_ | refine x_st0 ?_ | refine x_callv (keep2_v _) ?_ | refine x_callv (keep2_v) ?_ | refine x_app natV (a1 := (k + 1)) tb_ok ?_ | refine x_bs tb_ok ?_ | refine zA ?_ | refine zc1 ?_ | refine zc2 ?_ | refine zc6 ?_ | refine zI ?_ | refine zM ?_ | (refine zs1 ?_ ?_ <;> intro hc) | (refine zs2 ?_ ?_ <;> intro hc) | (refine zs6 ?_ ?_ <;> intro hc)) | refine awp_split rfl (fun hb => ?_) (fun hb => ?_) | refine zr ?_ | exact x_le)
        refine ⟨by omega, hk2, ?_⟩
        exact (by exact x_len [0, 1, 2, 3, 4, 5, 6])
      · rw [if_pos (by decide)] at hp
        subst hp
        repeat' (first | refine zt ?_ | (refine isR ?_; first | refine zo ?_ | refine x_lookNo0 tb_ok ?_ | refine x_al0 ?_ | refine x_st0 ?_ | refine x_callv (keep2_v _) ?_ | refine x_callv (keep2_v) ?_ | refine x_app natV (a1 := (k + 1)) tb_ok ?_ | refine x_bs tb_ok ?_ | refine zA ?_ | refine zc1 ?_ | refine zc2 ?_ | refine zc6 ?_ | refine zI ?_ | refine zM ?_ | (refine zs1 ?_ ?_ <;> intro hc) | (refine zs2 ?_ ?_ <;> intro hc) | (refine zs6 ?_ ?_ <;> intro hc)) | refine awp_split rfl (fun hb => ?_) (fun hb => ?_) | refine zr ?_ | exact x_le)
        refine ⟨by omega, hk2, ?_⟩
        exact (by exact x_len [0, 1, 2, 3, 4, 5, 9])
      · rw [if_pos (by decide)] at hp
        subst hp
        repeat' (first | refine zt ?_ | (refine isR ?_; first | refine zo ?_ | refine x_lookNo0 tb_ok ?_ | refine x_al0 ?_ | refine x_st0 ?_ | refine x_callv (keep2_v _) ?_ | refine x_callv (keep2_v) ?_ | refine x_app natV (a1 := (k + 1)) tb_ok ?_ | refine x_bs tb_ok ?_ | refine zA ?_ | refine zc1 ?_ | refine zc2 ?_ | refine zc6 ?_ | refine zI ?_ | refine zM ?_ | (refine zs1 ?_ ?_ <;> intro hc) | (refine zs2 ?_ ?_ <;> intro hc) | (refine zs6 ?_ ?_ <;> intro hc)) | refine awp_split rfl (fun hb => ?_) (fun hb => ?_) | refine zr ?_ | exact x_le)
        refine ⟨by omega, hk2, ?_⟩
        exact (by exact x_len [0, 1, 2, 3, 4, 5, 9])
      · rw [if_pos (by decide)] at hp
        subst hp
        repeat' (first | refine zt ?_ | (refine isR ?_; first | refine zo ?_ | refine x_lookNo0 tb_ok ?_ | refine x_al0 ?_ | refine x_st0 ?_ | refine x_callv (keep2_v _) ?_ | refine x_callv (keep2_v) ?_ | refine x_app natV (a1 := (k + 1)) tb_ok ?_ | refine x_bs tb_ok ?_ | refine zA ?_ | refine zc1 ?_ | refine zc2 ?_ | refine zc6 ?_ | refine zI ?_ | refine zM ?_ | (refine zs1 ?_ ?_ <;> intro hc) | (refine zs2 ?_ ?_ <;> intro hc) | (refine zs6 ?_ ?_ <;> intro hc)) | refine awp_split rfl (fun hb => ?_) (fun hb => ?_) | refine zr ?_ | exact x_le)
        refine ⟨by omega, hk2, ?_⟩
        exact (by exact x_len [0, 1, 2, 3, 4, 5, 9])
    · obtain rfl : k = 40 := by omega
      repeat' (first | refine zt ?_ | (refine isR ?_; first | refine zo ?_ | refine x_bs tb_ok ?_ | refine zA ?_ | refine zc1 ?_ | refine zc2 ?_ | refine zc6 ?_ | refine zI ?_ | (refine zs1 ?_ ?_ <;> intro hc) | (refine zs2 ?_ ?_ <;> intro hc) | (refine zs6 ?_ ?_ <;> intro hc)) | refine awp_split rfl (fun hb => ?_) (fun hb => ?_) | refine x_mret [6] ?_ ?_ | refine x_mnor [6] ?_ ?_ | refine zr ?_ | exact x_le)
      · rfl
      · exact .on (.same (nl_map fun _ => rfl)) .nil
set_option maxRecDepth 100000 in
set_option maxHeartbeats 4000000 in
theorem join_m {g1 g2 : Nat} {P Q : Nat → Bool} {U W : List Nat} (h1 : g1 ≤ 68719476735) (h2 : g2 ≤ 68719476735) (hU : RightN U) (hW : RightN W) :
    MCalls Tryd.prog 5 [conN g1 P U, conN g2 Q W] [] (.tup [conW (max g1 g2) (fun i => or (P i) (Q i)) 0 (pick or U W 40).length, .int .i64 0]) [some (rI (pick or U W 40))] := by
  have c1 := both2_m (P := P) (Q := Q) h1 h2 hU hW
  generalize max g1 g2 = gm at *
  generalize pick or U W 40 = B at *
  refine mfun tb_ok Tryd.func5 rfl Tryd.ntmps5 Tryd.results5 rfl rfl rfl rfl fun N pl => ?_
  repeat' (first | refine zt ?_ | (refine isR ?_; first | refine zo ?_ | refine x_m [] [1] (c1 _) ?_ | refine x_m0 [] [1] (c1 _) ?_ | refine x_m [] [1] (c1) ?_ | refine x_m0 [] [1] (c1) ?_) | refine awp_split rfl (fun hb => ?_) (fun hb => ?_) | refine x_mret [1] ?_ ?_ | refine x_mnor [1] ?_ ?_ | refine zr ?_ | exact x_le)
  · rfl
  · exact .on (.same (nl_map fun _ => rfl)) .nil
set_option maxRecDepth 100000 in
set_option maxHeartbeats 4000000 in
theorem bothNo2_v {g1 g2 : Int} {P Q : Nat → Bool} {L K : List Int} {e : Nat} (h0 : e ≠ 0) (he : (if GrantP.check g1 L ≠ 0 then GrantP.check g1 L else GrantP.check g2 K) = e) :
    ACalls Tryd.prog 11 [conI g1 P L, conI g2 Q K, .fn (.func 13) [] []] (.tup [noC, natV e]) := by
  have c1 := check_v (g := g1) (P := P) (L := L)
  have c2 := check_v (g := g2) (P := Q) (L := K)
  by_cases h1 : GrantP.check g1 L = 0
  · rw [if_neg (by rw [h1]; simp)] at he
    rw [h1] at c1
    subst he
    generalize GrantP.check g2 K = z at *
    refine fun3 tb_ok Tryd.func11 rfl Tryd.ntmps11 Tryd.results11 rfl fun N => ?_
    repeat' (first | with_reducible refine rounds_on ?_ | with_reducible refine awp_rounds 3 ?_ | refine zt ?_ | (refine isR ?_; first | refine zo ?_ | refine zk c1 ?_ | refine zk c2 ?_ | refine x_bs tb_ok ?_ | refine zA ?_ | refine zc1 ?_ | refine zc2 ?_ | refine zc6 ?_ | refine zI ?_ | (refine zs1 ?_ ?_ <;> intro hc) | (refine zs2 ?_ ?_ <;> intro hc) | (refine zs6 ?_ ?_ <;> intro hc)) | refine awp_split rfl (fun hb => ?_) (fun hb => ?_) | refine zr ?_ | exact x_le)
    all_goals first | rfl | (exfalso; omega)
  · rw [if_pos h1] at he
    subst he
    generalize GrantP.check g1 L = z at *
    refine fun3 tb_ok Tryd.func11 rfl Tryd.ntmps11 Tryd.results11 rfl fun N => ?_
    repeat' (first | with_reducible refine rounds_on ?_ | with_reducible refine awp_rounds 3 ?_ | refine zt ?_ | (refine isR ?_; first | refine zo ?_ | refine zk c1 ?_ | refine zk c2 ?_ | refine x_bs tb_ok ?_ | refine zA ?_ | refine zc1 ?_ | refine zc2 ?_ | refine zc6 ?_ | refine zI ?_ | (refine zs1 ?_ ?_ <;> intro hc) | (refine zs2 ?_ ?_ <;> intro hc) | (refine zs6 ?_ ?_ <;> intro hc)) | refine awp_split rfl (fun hb => ?_) (fun hb => ?_) | refine zr ?_ | exact x_le)
    all_goals first | rfl | (exfalso; omega)
set_option maxRecDepth 100000 in
set_option maxHeartbeats 4000000 in
theorem joinNo_v {g1 g2 : Int} {P Q : Nat → Bool} {L K : List Int} {e : Nat} (h0 : e ≠ 0) (he : (if GrantP.check g1 L ≠ 0 then GrantP.check g1 L else GrantP.check g2 K) = e) :
    ACalls Tryd.prog 5 [conI g1 P L, conI g2 Q K] (.tup [noC, natV e]) := by
  have c1 := bothNo2_v (P := P) (Q := Q) h0 he
  refine fun2 tb_ok Tryd.func5 rfl Tryd.ntmps5 Tryd.results5 rfl fun N => ?_
  repeat' (first | refine zt ?_ | (refine isR ?_; first | refine zo ?_ | refine zk c1 ?_) | refine awp_split rfl (fun hb => ?_) (fun hb => ?_) | refine zr ?_ | exact x_le)
  all_goals rfl
end Go.Proofs.YtnpokgjehapmjaaDoor.ConM
end
