/- Texts of the proof, joined: AbsU, AbsZ. -/
import Derived.Test.YtkgdkpiacencjaaGreatDoorG9
import Derived.Lib.Builder
import Derived.Lib.AppendStr
import Derived.Lib.UnsafeStr
import Derived.Lib.TrimU
import Derived.Laws.Externs
import Derived.Laws.Pointers
import Derived.LaidEqlPtr
import Derived.Laws.Cover4
import Derived.Laws.BytesArg
import Derived.ChangeKeysEq
section
namespace Go.Proofs.YtkgdkpiacencjaaGreatDoor.Abs
open Go.RowKit Mem Facts

section
variable {X A A' : Nat → Prop} {φ φ' : Nat → Pl} {w w' : World} {P : Program} {tb : List Ty} {T : Nat} {e ee : Ty} {N : Env} {M : Nat → Prop} {o : Oper} {s : S} {a : Act}

/-! ### Ranging over a text -/
theorem und_str {ti : TypeInfo} {d : TypeDesc} (ht : TyIs P T e ti d) (hk : Nat.beq e.knd 2 = true) : P.underlying T = some .string := by
  have : d = .string := kind_str ((Nat.eq_of_beq_eq_true hk).symm.trans ht.knd)
  rw [ht.und, this]
theorem law_range_str {x : Operand} {b : ByteArray} {ν : Nat} (htb : TbOk P tb) (ho : o.op = .range T x) (hT : nth tb T = some e) (hk : Nat.beq e.knd 2 = true) : OpLaw P N o ⟨[(x, .str b)], []⟩ (.loc ν 0 0) [(ν, some (.sit b 0))] [ν] := fun s M A φ a w hh hr hν hd => by
  obtain ⟨ti, d, ht⟩ := ty_at htb hT
  obtain ⟨h1, h2⟩ := hr.str hh.a
  have hrun : (execOp a.eval o).run P w = .ok (.value (.pointer (some ⟨w.heap.size, 0, none⟩))) (w.alloc (.stringIter b 0)) := by
    unfold execOp; simp only [ho, h1]
    have h : (Instr.range T (.string b)).run P w = .ok (.pointer (some ⟨w.heap.size, 0, none⟩)) (w.alloc (.stringIter b 0)) := by
      unfold Instr.range
      simp [run_underlying (und_str ht hk), Result.andThen]
    simp [h, Result.andThen]
  unfold Oper.wp
  rw [hrun]
  refine rel_new (pl := ⟨some w.heap.size, 0, 0⟩) hr (hν ν (by simp)) rfl (fun φ' hφ => ?_) (fun φ' hφ => ?_) hd
  · exact ⟨h2, _, rfl, .inr rfl, heap_alloc_new w _⟩
  · have := Rep.loc (X := fun b => (M b ∨ b = w.heap.size) ∨ N b) (A := fun n => A n ∨ n = ν) (φ := φ') (w := w.alloc (.stringIter b 0)) (n := ν) (i := 0) (off := 0) (b := w.heap.size) (.inr rfl) (by rw [hφ])
    simpa using this
theorem sit_row {n pos : Nat} {b : ByteArray} (hr : Rel N M A φ s a w) (hk : s.blk n = some (.sit b pos)) {x : Operand} (hx : s.ev x = some (.loc n 0 0)) : ∃ q, a.eval x = .pointer (some ⟨q, 0, none⟩) ∧ (φ n).blk = some q ∧ w.heap[q]? = some (.stringIter b pos) ∧ b.size ≤ SLIM := by
  obtain ⟨q, h1, h2⟩ := rep_loc (hr.ev hx)
  obtain ⟨_, h3, q', g1, g2, g3⟩ := hr.st n _ hk
  rw [h1] at g1; cases g1
  exact ⟨q, by simpa using h2, h1, g3, h3⟩
theorem run_getObj_at {r pos : Nat} {b : ByteArray} (hb : w.heap[r]? = some (.stringIter b pos)) : (getObj r).run P w = .ok (.stringIter b pos) w := by simp [getObj, Sem.run, hb]
theorem run_setObj_at {r pos : Nat} {b : ByteArray} (o' : Obj) (hb : w.heap[r]? = some (.stringIter b pos)) : (setObj r o').run P w = .ok () { w with heap := w.heap.setIfInBounds r o' } := by simp [setObj, Sem.run, hb]
theorem rep_tup3 {u v t : V} {x y z : Value} (h1 : Rep X A φ w u x) (h2 : Rep X A φ w v y) (h3 : Rep X A φ w t z) : Rep X A φ w (.tup [u, v, t]) (.tuple #[x, y, z]) := by
  refine .tup rfl fun i p c hp hc => ?_
  rcases i with _ | _ | _ | i
  · simp at hp hc; subst hp hc; exact h1
  · simp at hp hc; subst hp hc; exact h2
  · simp at hp hc; subst hp hc; exact h3
  · simp at hp
theorem law_next_str {x : Operand} {n pos c wd : Nat} {b : ByteArray} (ho : o.op = .next x true) (hp : pos < b.size) (hc : Utf8.decode b pos = (c, wd)) (_hw : pos + wd ≤ SLIM) : OpLaw P N o ⟨[(x, .loc n 0 0)], [(n, .sit b pos)]⟩ (.tup [.bool true, .int .i64 (pos : Int), .int .i32 (c : Int)]) [(n, some (.sit b (pos + wd)))] [] := fun s M A φ a w hh hr _ hd => by
  obtain ⟨q, h1, h2, h3, h4⟩ := sit_row hr hh.n hh.a
  have hrun : (execOp a.eval o).run P w = .ok (.value (.tuple #[.bool true, goInt pos, .int .i32 c])) { w with heap := w.heap.setIfInBounds q (.stringIter b (pos + wd)) } := by
    unfold execOp; simp only [ho, h1]
    simp [Instr.next, run_getObj_at h3, run_setObj_at _ h3, Result.andThen, hp, hc]
  unfold Oper.wp
  rw [hrun]
  have hle := Lib.rune_le b pos
  rw [hc] at hle
  simp only at hle
  simp only [SLIM] at h4
  refine rel_obj hr hh.n h2 (fun w' hs hb => ⟨by simp only [SLIM]; exact h4, q, h2, hr.lt_blk hh.n h2, hb⟩) (rep_tup3 (.fz .bool) (.fz (.int ⟨by simp only [rng]; omega, by simp only [rng]; omega⟩)) (.fz (.int ⟨by simp only [rng]; omega, by simp only [rng]; omega⟩))) hd
theorem rep_tup1 {u : V} {x : Value} (h1 : Rep X A φ w u x) : Rep X A φ w (.tup [u]) (.tuple #[x]) := by
  refine .tup rfl fun i p c hp hc => ?_
  rcases i with _ | i
  · simp at hp hc; subst hp hc; exact h1
  · simp at hp
theorem law_next_over {x : Operand} {n pos : Nat} {b : ByteArray} (ho : o.op = .next x true) (hp : ¬ pos < b.size) : OpLaw P N o ⟨[(x, .loc n 0 0)], [(n, .sit b pos)]⟩ (.tup [.bool false]) [] [] := law_pure fun s M A φ a w hh hr => by
  obtain ⟨q, h1, h2, h3, h4⟩ := sit_row hr hh.n hh.a
  refine ⟨.tuple #[.bool false], ?_, rep_tup1 (.fz .bool)⟩
  unfold execOp; simp only [ho, h1]
  simp [Instr.next, run_getObj_at h3, Result.andThen, hp]
/-! ### Pointers -/
variable {t' : TypeId} {x y : Operand}
/-! ### A pointer as an unsafe one, and back -/
/-! ### A text's bytes onto bytes -/
variable {Tu el : Nat} {es : Ty} {l : List UInt8}
/-! ### A text out of bytes that nobody writes any more -/
/-! ### A call without a body that gives its argument -/
end
section
variable {P : Program} {N : Env} {l r : List Oper} {o : Oper} {tm : List (Nat × V)} {st : List (Nat × Option Blk)} {nx nt : Nat} {tr : List Tr} {K : S → List Tr → Prop} {fp : Fp} {v : V}
theorem r_put {d n : Nat} {b : Blk} (hg : guardV l o ⟨tm, st, nx, nt⟩ = some true) (hd : o.dst = some d) (hlt : Nat.blt d nt = true) (law : OpLaw P N o fp v [(n, some b)] []) (hh : Holds fp ⟨tm, st, nx, nt⟩) (k : ARun P N l K r ⟨(d, v) :: tm, (n, some b) :: st, nx, nt⟩ (tr ++ [trOf l o fp [(n, some b)]])) : ARun P N l K (o :: r) ⟨tm, st, nx, nt⟩ tr :=
  .on fp v [(n, some b)] [] nx hg law hh ⟨Nat.le_refl _, fun n h => by simp at h⟩ (fun d' h => by rw [hd] at h; cases h; exact blt_lt hlt) (by
    have e : S.eff ⟨tm, st, nx, nt⟩ o.dst v [(n, some b)] nx = ⟨(d, v) :: tm, (n, some b) :: st, nx, nt⟩ := by rw [hd]; rfl
    rw [e]; exact k)
end
/-! ### A nil slice within a row may be named -/
def nameAt (ν : Nat) : Nat → List V → Option (List V)
  | 0, .nils :: r => some (.own ν 0 0 :: r)
  | i + 1, v :: r => match nameAt ν i r with
    | some q => some (v :: q)
    | none => none
  | _, _ => none
theorem nameAt_spec {ν : Nat} : ∀ {i : Nat} {cs cs' : List V}, nameAt ν i cs = some cs' → cs'.length = cs.length ∧ ∀ (j : Nat) u', cs'[j]? = some u' → cs[j]? = some u' ∨ (cs[j]? = some .nils ∧ u' = .own ν 0 0)
  | 0, cs, cs', h => by
    cases cs with
    | nil => simp [nameAt] at h
    | cons v r =>
      cases v <;> simp only [nameAt] at h <;> cases h
      refine ⟨rfl, fun j u' hu => ?_⟩
      rcases j with _ | j
      · simp at hu; subst hu; exact .inr ⟨rfl, rfl⟩
      · exact .inl (by simpa using hu)
  | i + 1, [], cs', h => by simp [nameAt] at h
  | i + 1, v :: r, cs', h => by
    rw [nameAt] at h
    split at h <;> cases h
    rename_i q hq
    obtain ⟨h1, h2⟩ := nameAt_spec hq
    refine ⟨by simp [h1], fun j u' hu => ?_⟩
    rcases j with _ | j
    · exact .inl (by simpa using hu)
    · simpa using h2 j u' (by simpa using hu)
section
variable {P : Program} {N : Env} {c : Code} {Q : Exit → S → Prop}
theorem awp_nameR {tm : List (Nat × V)} {st : List (Nat × Option Blk)} {nx nt T1 sz1 : Nat} {cs cs' : List V} (n i T sz : Nat) (hB : S.blk ⟨tm, st, nx, nt⟩ n = some (.els T1 sz1 [.agg cs])) (hi : nameAt nx i cs = some cs') (h0 : 0 < sz) (hK : Nat.ble N.K nx = true) (k : AWp P N c Q ⟨tm, (n, some (.els T1 sz1 [.agg cs'])) :: (nx, some (.els T sz [])) :: st, nx + 1, nt⟩) : AWp P N c Q ⟨tm, st, nx, nt⟩ := fun M φ a w hr => by
  obtain ⟨hl, hs⟩ := nameAt_spec hi
  let φ' : Nat → Pl := fun n => if n = nx then ⟨none, sz, 0⟩ else φ n
  have hφ : ∀ n, n < nx → φ' n = φ n := fun n hn => if_neg (by omega)
  have hφν : φ' nx = ⟨none, sz, 0⟩ := if_pos rfl
  have hA : ∀ n, n < nx → n < nx + 1 := fun n h => by omega
  have hnlt : n < nx := (hr.st n _ hB).1
  have eb : ∀ m, S.blk ⟨tm, (n, some (.els T1 sz1 [.agg cs'])) :: (nx, some (.els T sz [])) :: st, nx + 1, nt⟩ m = if n = m then some (.els T1 sz1 [.agg cs']) else if nx = m then some (.els T sz []) else S.blk ⟨tm, st, nx, nt⟩ m := fun m => by
    unfold S.blk
    simp only [lk_put]
    by_cases e : n = m
    · simp [e]
    · by_cases e2 : nx = m <;> simp [e, e2]
  have nilx : ∀ x, Rep (fun b => M b ∨ N b) (· < nx) φ w .nils x → x = .slice none 0 0 := fun x h => by
    cases h with
    | fz h => cases h; rfl
  have name : ∀ m b, S.blk ⟨tm, (n, some (.els T1 sz1 [.agg cs'])) :: (nx, some (.els T sz [])) :: st, nx + 1, nt⟩ m = some b → m = nx ∨ ∃ b', S.blk ⟨tm, st, nx, nt⟩ m = some b' := fun m b h => by
    rw [eb] at h
    split at h
    · rename_i e; subst e; exact .inr ⟨_, hB⟩
    · split at h
      · rename_i e; exact .inl e.symm
      · exact .inr ⟨_, h⟩
  refine k M φ' a w ⟨fun q v hq => ?_, hr.nt, fun m b hb => ?_, fun m m' b b' x e1 e2 e3 e4 => ?_, hr.lim, hr.dis, hr.df, fun m hm => ?_, hr.gl⟩
  · obtain ⟨g1, g2⟩ := hr.tm q v hq
    exact ⟨g1, g2.mono (fun _ _ h => h) (.refl _ w) hA hφ⟩
  · rw [eb] at hb
    split at hb
    · rename_i e
      subst e; cases hb
      refine ⟨hA _ hnlt, ?_⟩
      obtain ⟨_, g1, g2, g3, g4, g5⟩ := hr.st _ _ hB
      rw [hφ _ hnlt]
      have hcs := g4 (.agg cs) (by simp)
      refine ⟨g1, g2, g3, fun x hx => ?_, g5.imp (fun h => absurd h.2.1 (by simp)) ?_⟩
      · rw [List.mem_singleton] at hx; subst hx
        refine ⟨by show cs'.length = sz1; rw [hl]; exact hcs.1, fun u hu => ?_⟩
        obtain ⟨j, hj⟩ := List.mem_iff_getElem?.1 (show u ∈ cs' from hu)
        rcases hs j u hj with h | ⟨_, h⟩
        · exact hcs.2 u (List.mem_of_getElem? (show (V.agg cs).cells[j]? = some u from h))
        · subst h; rfl
      · rintro ⟨b, cur, k1, k2, k3, k4, k5, k6, k7⟩
        refine ⟨b, cur, k1, k2, k3, k4, k5, k6, fun i' j x u hx hu => ?_⟩
        rcases i' with _ | i'
        · simp at hx; subst hx
          rcases hs j u hu with h | ⟨h, rfl⟩
          · obtain ⟨q, f1, f2⟩ := k7 0 j (.agg cs) u rfl h
            exact ⟨q, f1, f2.mono (fun _ _ h => h) (.refl _ w) hA hφ⟩
          · obtain ⟨q, f1, f2⟩ := k7 0 j (.agg cs) .nils rfl h
            have := nilx _ f2
            subst this
            exact ⟨_, f1, .own0 (Nat.lt_succ_self nx) (by rw [hφν])⟩
        · simp at hx
    · split at hb
      · rename_i e
        subst e; cases hb
        refine ⟨Nat.lt_succ_self nx, by rw [hφν], h0, by simp [LIM], (by intro x hx; simp at hx), .inl ⟨by rw [hφν], rfl, by rw [hφν]⟩⟩
      · obtain ⟨g1, g2⟩ := hr.st m b hb
        have g1 : m < nx := g1
        refine ⟨hA m g1, ?_⟩
        rw [hφ m g1]
        exact g2.mono (fun _ _ h => h) (.refl _ w) hA hφ (fun _ h => h) fun _ _ => rfl
  · rcases name m b e1 with rfl | ⟨c1, f1⟩
    · rw [hφν] at e3; cases e3
    · rcases name m' b' e2 with rfl | ⟨c2, f2⟩
      · rw [hφν] at e4; cases e4
      · have g1 : m < nx := (hr.st m _ f1).1
        have g2 : m' < nx := (hr.st m' _ f2).1
        rw [hφ m g1] at e3
        rw [hφ m' g2] at e4
        exact hr.inj m m' _ _ x f1 f2 e3 e4
  · obtain ⟨g1, g2⟩ := hr.pin m hm
    exact ⟨hA m g1, (hφ m g1).trans g2⟩
end
/-! ### Nil slices as slices of nothing, wherever they stand -/
mutual
def V.nfd : V → V
  | .nils => .fro []
  | .agg vs => .agg (nfdL vs)
  | .tup vs => .tup (nfdL vs)
  | v => v
def V.nfdL : List V → List V
  | [] => []
  | v :: r => v.nfd :: nfdL r
end
theorem nfdL_map : ∀ l : List V, V.nfdL l = l.map V.nfd
  | [] => rfl
  | v :: r => by rw [V.nfdL, nfdL_map r]; rfl
theorem nfd_one (v : V) (h : v.one = true) : v.nfd.one = true := by
  cases v <;> first | rfl | (simp [V.one] at h)
theorem Fz.nfd {X : Nat → Prop} {w : World} {v : V} {x : Value} (h : Fz X w v x) : Fz X w v.nfd x := by
  induction h with
  | nils => rw [V.nfd]; exact .fro0 (fun _ => rfl)
  | agg h1 h2 h3 ih =>
    rw [V.nfd, nfdL_map]
    refine .agg (by simpa using h1) (fun v hv => ?_) fun i x c hx hc => ?_
    · obtain ⟨u, hu, rfl⟩ := List.mem_map.1 hv
      exact nfd_one u (h2 u hu)
    · rw [List.getElem?_map, Option.map_eq_some_iff] at hx
      obtain ⟨u, hu, rfl⟩ := hx
      exact ih i u c hu hc
  | tup h1 h3 ih =>
    rw [V.nfd, nfdL_map]
    refine .tup (by simpa using h1) fun i x c hx hc => ?_
    rw [List.getElem?_map, Option.map_eq_some_iff] at hx
    obtain ⟨u, hu, rfl⟩ := hx
    exact ih i u c hu hc
  | int h => exact .int h
  | bool => exact .bool
  | str h => exact .str h
  | fro0 h => exact .fro0 h
  | fro c h1 h2 h3 h4 h5 h6 h7 h8 => exact .fro c h1 h2 h3 h4 h5 h6 h7 h8
  | fp c h1 h2 h3 h4 h5 => exact .fp c h1 h2 h3 h4 h5
  | nilp => exact .nilp
  | fn h1 h2 h3 h4 => exact .fn h1 h2 h3 h4
  | nilf => exact .nilf
  | ifc h => exact .ifc h
  | nili => exact .nili
  | nilm => exact .nilm
  | und => exact .und
theorem ACallsG.nfd {P : Program} {g : Glob} {f : FuncId} {args : List V} {r r' : V} (h : ACallsG P g f args r) (e : r.nfd = r') : ACallsG P g f args r' := fun N w vs hG hN hl hv => (h N w vs hG hN hl hv).mono fun _ _w' ⟨x, h1, h2, h3⟩ => ⟨x, h1, h2, e ▸ h3.nfd⟩
theorem ACalls.nfd {P : Program} {f : FuncId} {args : List V} {r r' : V} (h : ACalls P f args r) (e : r.nfd = r') : ACalls P f args r' := fun g => (h g).nfd e
section
variable {P : Program} {N : Env} {l r : List Oper} {o : Oper} {tm : List (Nat × V)} {st : List (Nat × Option Blk)} {nx nt : Nat} {tr : List Tr} {K : S → List Tr → Prop} {tb : List Ty} {d T : Nat} {t t' : TypeId} {x y z : Operand} {a b n : Int} {p q : List UInt8} {u v : Bool} {e ee : Ty}
theorem x_range {w : ByteArray} (htb : TbOk P tb) (k : ARun P N l K r ⟨(d, .loc nx 0 0) :: tm, (nx, some (.sit w 0)) :: st, nx + 1, nt⟩ (tr ++ [trOf l o ⟨[(x, .str w)], []⟩ [(nx, some (.sit w 0))]])) (ho : o.op = .range T x := by rfl) (hx : S.ev ⟨tm, st, nx, nt⟩ x = some (.str w) := by rfl) (hg : guardV l o ⟨tm, st, nx, nt⟩ = some true := by rfl) (hd : o.dst = some d := by rfl) (hlt : Nat.blt d nt = true := by rfl) (hT' : nth tb T = some e := by rfl) (hk : Nat.beq e.knd 2 = true := by rfl) : ARun P N l K (o :: r) ⟨tm, st, nx, nt⟩ tr := r_new rfl hg hd hlt (law_range_str htb ho hT' hk) (hT hx h0) k
theorem x_next {m pos : Nat} {w : ByteArray} (c wd : Nat) (k : ARun P N l K r ⟨(d, .tup [.bool true, .int .i64 (pos : Int), .int .i32 (c : Int)]) :: tm, (m, some (.sit w (pos + wd))) :: st, nx, nt⟩ (tr ++ [trOf l o ⟨[(x, .loc m 0 0)], [(m, .sit w pos)]⟩ [(m, some (.sit w (pos + wd)))]])) (ho : o.op = .next x true := by rfl) (hx : S.ev ⟨tm, st, nx, nt⟩ x = some (.loc m 0 0) := by rfl) (hg : guardV l o ⟨tm, st, nx, nt⟩ = some true := by rfl) (hd : o.dst = some d := by rfl) (hlt : Nat.blt d nt = true := by rfl) (hB : S.blk ⟨tm, st, nx, nt⟩ m = some (.sit w pos) := by rfl) (hp : pos < w.size := by assumption) (hc : Utf8.decode w pos = (c, wd) := by assumption) (hw : pos + wd ≤ SLIM := by assumption) : ARun P N l K (o :: r) ⟨tm, st, nx, nt⟩ tr := r_put hg hd hlt (law_next_str ho hp hc hw) (hT hx (hN hB h0)) k
theorem x_nextE {m pos : Nat} {w : ByteArray} (k : ARun P N l K r ⟨(d, .tup [.bool false]) :: tm, st, nx, nt⟩ (tr ++ [trOf l o ⟨[(x, .loc m 0 0)], [(m, .sit w pos)]⟩ []])) (ho : o.op = .next x true := by rfl) (hx : S.ev ⟨tm, st, nx, nt⟩ x = some (.loc m 0 0) := by rfl) (hg : guardV l o ⟨tm, st, nx, nt⟩ = some true := by rfl) (hd : o.dst = some d := by rfl) (hlt : Nat.blt d nt = true := by rfl) (hB : S.blk ⟨tm, st, nx, nt⟩ m = some (.sit w pos) := by rfl) (hp : ¬ pos < w.size := by assumption) : ARun P N l K (o :: r) ⟨tm, st, nx, nt⟩ tr := r_val hg hd hlt (law_next_over ho hp) (hT hx (hN hB h0)) k
theorem x_mv {f nx' : Nat} {g : Operand} {fs bs' ws : List V} {xs : Array Operand} {ts : Array TypeId} {args vs : List V} {sts bs : List Blk} {rv r2 : V} {sts' us : List (Option Blk)} {up st2 : List (Nat × Option Blk)} (ns news : List Nat) (h : MCallsG P N.g f args sts rv sts') (k : ARun P N l K r ⟨(d, r2) :: tm, st2, nx', nt⟩ (tr ++ [trOf l o ⟨(g, .fn (.func f) fs bs') :: tsOf xs.toList vs, zipB ns bs⟩ up])) (ho : o.op = .call { callee := .value g, args := xs, argTypes := ts } := by rfl) (hf : S.ev ⟨tm, st, nx, nt⟩ g = some (.fn (.func f) fs bs') := by rfl) (he : evL ⟨tm, st, nx, nt⟩ xs.toList = some vs := by rfl) (hargs : renOL ns args = some ws := by rfl) (hws : ws = fs ++ vs ++ bs' := by rfl) (hg : guardV l o ⟨tm, st, nx, nt⟩ = some true := by rfl) (hd : o.dst = some d := by rfl) (hlt : Nat.blt d nt = true := by rfl) (hb : hasBody P f = true := by kernel_rfl) (_hnx : nx + news.length = nx' := by rfl) (hbs : rowsL ⟨tm, st, nx, nt⟩ ns = some bs := by rfl) (hst : RenBs ns sts bs := by repeat' first | exact RenBs.nil | apply RenBs.cons | exact RenB.same (nl_map fun _ => rfl) | exact RenB.ren rfl | exact RenB.sit | exact RenB.map (map_nl fun _ => rfl) | exact RenB.map (by assumption)) (hlen : Nat.beq ns.length sts.length = true := by rfl) (hdis : distinctB (ns ++ news) = true := by rfl) (hlen' : Nat.beq (ns ++ news).length sts'.length = true := by rfl) (hr2 : renO (ns ++ news) rv = some r2 := by rfl) (hus : RenOs (ns ++ news) sts' us := by repeat' first | exact RenOs.nil | apply RenOs.no | apply RenOs.on | exact RenB.same (nl_map fun _ => rfl) | exact RenB.ren rfl | exact RenB.sit | exact RenB.map (map_nl fun _ => rfl) | exact RenB.map (by assumption)) (hup : zipO (ns ++ news) us = some up := by rfl) (hst2 : appO up st = some st2 := by rfl) (hnw : newsOk nx nx' news = true := by rfl) : ARun P N l K (o :: r) ⟨tm, st, nx, nt⟩ tr := r_m (law_mcallv ns news ho (enters hb) h hargs hws (ev_len he) hst hlen hdis hlen' hr2 hus hup) nx' hnw hg hd hlt (hT hf (ts_of he (rowsL_at hbs))) hst2 k
theorem x_m0v {f nx' : Nat} {g : Operand} {fs bs' ws : List V} {xs : Array Operand} {ts : Array TypeId} {args vs : List V} {sts bs : List Blk} {rv r2 : V} {sts' us : List (Option Blk)} {up st2 : List (Nat × Option Blk)} (ns news : List Nat) (h : MCallsG P N.g f args sts rv sts') (k : ARun P N l K r ⟨tm, st2, nx', nt⟩ (tr ++ [trOf l o ⟨(g, .fn (.func f) fs bs') :: tsOf xs.toList vs, zipB ns bs⟩ up])) (ho : o.op = .call { callee := .value g, args := xs, argTypes := ts } := by rfl) (hf : S.ev ⟨tm, st, nx, nt⟩ g = some (.fn (.func f) fs bs') := by rfl) (he : evL ⟨tm, st, nx, nt⟩ xs.toList = some vs := by rfl) (hargs : renOL ns args = some ws := by rfl) (hws : ws = fs ++ vs ++ bs' := by rfl) (hg : guardV l o ⟨tm, st, nx, nt⟩ = some true := by rfl) (hd : o.dst = none := by rfl) (hb : hasBody P f = true := by kernel_rfl) (_hnx : nx + news.length = nx' := by rfl) (hbs : rowsL ⟨tm, st, nx, nt⟩ ns = some bs := by rfl) (hst : RenBs ns sts bs := by repeat' first | exact RenBs.nil | apply RenBs.cons | exact RenB.same (nl_map fun _ => rfl) | exact RenB.ren rfl | exact RenB.sit | exact RenB.map (map_nl fun _ => rfl) | exact RenB.map (by assumption)) (hlen : Nat.beq ns.length sts.length = true := by rfl) (hdis : distinctB (ns ++ news) = true := by rfl) (hlen' : Nat.beq (ns ++ news).length sts'.length = true := by rfl) (hr2 : renO (ns ++ news) rv = some r2 := by rfl) (hus : RenOs (ns ++ news) sts' us := by repeat' first | exact RenOs.nil | apply RenOs.no | apply RenOs.on | exact RenB.same (nl_map fun _ => rfl) | exact RenB.ren rfl | exact RenB.sit | exact RenB.map (map_nl fun _ => rfl) | exact RenB.map (by assumption)) (hup : zipO (ns ++ news) us = some up := by rfl) (hst2 : appO up st = some st2 := by rfl) (hnw : newsOk nx nx' news = true := by rfl) : ARun P N l K (o :: r) ⟨tm, st, nx, nt⟩ tr := r_m0 (law_mcallv ns news ho (enters hb) h hargs hws (ev_len he) hst hlen hdis hlen' hr2 hus hup) nx' hnw hg hd (hT hf (ts_of he (rowsL_at hbs))) hst2 k
theorem x_appK {α : Type} (f : α → V) {L K' : List α} {m el sz : Nat} {z0 : V} (htb : TbOk P tb) (k : ARun P N l K r ⟨(d, .own nx 0 (L ++ K').length) :: tm, (m, none) :: (nx, some (.els el sz ((L ++ K').map f))) :: st, nx + 1, nt⟩ (tr ++ [trOf l o ⟨[(x, .own m 0 L.length), (y, .fro (K'.map f))], [(m, .els el sz (L.map f))]⟩ [(m, none), (nx, some (.els el sz ((L ++ K').map f)))]])) (ho : o.op = .call { callee := .builtin .append, args := #[x, y], argTypes := #[T, T] } := by rfl) (hx : S.ev ⟨tm, st, nx, nt⟩ x = some (.own m 0 L.length) := by rfl) (hy : S.ev ⟨tm, st, nx, nt⟩ y = some (.fro (K'.map f)) := by rfl) (hg : guardV l o ⟨tm, st, nx, nt⟩ = some true := by rfl) (hd : o.dst = some d := by rfl) (hlt : Nat.blt d nt = true := by rfl) (hB : S.blk ⟨tm, st, nx, nt⟩ m = some (.els el sz (L.map f)) := by rfl) (hT' : nth tb T = some e := by rfl) (hs : e.sl = some el := by rfl) (hE : nth tb el = some ee := by rfl) (hz : ee.zeroV = some z0 := by rfl) (hsz : ee.size = sz := by rfl) (hzl : z0.cells.length = sz := by rfl) (hf : ∀ a, (f a).cells.length = sz ∧ ((f a).cells.all V.one) = true := by exact fun _ => ⟨rfl, rfl⟩) (hlim : (L ++ K').length ≤ LIM := by simp only [LIM, List.length_append, List.length_nil]; omega) (hby : (L ++ K').length * ee.bytes ≤ 140737488355328 := by show _ * (_ : Nat) ≤ _; simp; omega) : ARun P N l K (o :: r) ⟨tm, st, nx, nt⟩ tr := r_turn rfl hg hd hlt (law_append htb ho hT' hs hE hz hsz hzl (fun q hq => by obtain ⟨a, _, rfl⟩ := List.mem_map.1 hq; exact ⟨(hf a).1, List.all_eq_true.1 (hf a).2⟩) (by simp) (by simp) (by simp) hlim hby) (hT hx (hT hy (hN hB h0))) k
end
end Go.Proofs.YtkgdkpiacencjaaGreatDoor.Abs
end

section
namespace Go.Proofs.YtkgdkpiacencjaaGreatDoor.Abs
open Go.RowKit Mem Facts

theorem encode_low {n : Nat} (h : n < 128) : Utf8.encode (n : Int) = ⟨#[UInt8.ofNat n]⟩ := by
  have hv : Utf8.valid (n : Int) = true := by
    simp only [Utf8.valid, Bool.or_eq_true, Bool.and_eq_true, decide_eq_true_eq]
    first | omega | (left; omega) | (left; constructor <;> omega)
  unfold Utf8.encode
  simp only [hv, if_true, Int.toNat_natCast]
  rw [if_pos h]
theorem runes_low : ∀ (l : List UInt8) (s : ByteArray), (∀ b ∈ l, b.toNat < 128) → (l.map fun b => (b.toNat : Int)).foldl (fun r n => r ++ Utf8.encode n) s = s ++ str l
  | [], s, _ => by show s = s ++ str []; apply ByteArray.ext; simp [str, ByteArray.data_append]
  | b :: l, s, h => by
    have hb := h b (by simp)
    rw [List.map_cons, List.foldl_cons, runes_low l _ fun c hc => h c (by simp [hc]), encode_low hb]
    apply ByteArray.ext
    simp [str, ByteArray.data_append]
theorem runesBytes_low {l : List UInt8} (h : ∀ b ∈ l, b.toNat < 128) : runesBytes (l.map fun b => (b.toNat : Int)) = str l := by
  unfold runesBytes
  rw [runes_low l _ h]
  apply ByteArray.ext
  simp [str]
/-- A byte as a rune. -/
abbrev runeT (c : UInt8) : V := .int .i32 (c.toNat : Int)
section
variable {X A A' : Nat → Prop} {φ φ' : Nat → Pl} {w w' : World} {P : Program} {tb : List Ty} {T : Nat} {e ee e' : Ty} {N : Env} {M : Nat → Prop} {o : Oper} {s : S} {a : Act} {x y : Operand} {el : Nat} {L : List UInt8}
theorem flat_one1 {α : Type} {f : α → V} (hf : ∀ a, (f a).cells = [f a]) : ∀ L : List α, flat (L.map f) = L.map f
  | [] => rfl
  | a :: L => by show (f a).cells ++ flat (L.map f) = _; rw [hf, flat_one1 hf L]; rfl
theorem kd_int {ti : TypeInfo} {d : TypeDesc} {k : IntKind} (ht : TyIs P T e ti d) (hk : Nat.beq e.knd (kcode k) = true) : P.underlying T = some (.int k) := by
  have : d = .int k := kind_int ((Nat.eq_of_beq_eq_true hk).symm.trans ht.knd)
  rw [ht.und, this]
theorem law_runesStr {src dst n : Nat} (htb : TbOk P tb) (ho : o.op = .convert src dst x) (hS : nth tb src = some e) (hs : e.sl = some el) (hE : nth tb el = some ee) (hk : Nat.beq ee.knd (kcode .i32) = true) (hD : nth tb dst = some e') (hd2 : Nat.beq e'.knd 2 = true) (hlow : ∀ b ∈ L, b.toNat < 128) (hl : L.length ≤ SLIM) :
    OpLaw P N o ⟨[(x, .own n 0 L.length)], [(n, .els el 1 (L.map runeT))]⟩ (strT L) [] [] := law_pure fun s M A φ a w hh hr => by
  obtain ⟨ti, d, ht⟩ := ty_at htb hS
  obtain ⟨tj, dj, hj⟩ := ty_at htb hE
  obtain ⟨tk, dk, hkk⟩ := ty_at htb hD
  obtain ⟨vals, h1, h2, h3⟩ := own_src hr hh.n (hr.ev hh.a) (by simp)
  refine ⟨.string (str L), ?_, .fz (.str (by rw [str_size]; exact hl))⟩
  have hv : ∀ (j : Nat) c, L[j]? = some c → vals[j]? = some (.int .i32 c.toNat) := fun j c hj => by
    have hf := flat_one1 (f := runeT) (fun _ => rfl) L
    have hlv : vals.length = L.length := by have := h1.1; simpa using this
    have hjl : j < vals.length := by rw [hlv]; exact (List.getElem?_eq_some_iff.1 hj).1
    have hr2 := h2.at (j := j) (u := runeT c) (c := vals[j]) (by rw [hf]; simp [hj]) (by simp [hjl])
    rw [List.getElem?_eq_getElem hjl, rep_int hr2]
  have hrun : (convert src dst (a.eval x)).run P w = .ok (.string (str L)) w := by
    rcases h1.2 with ⟨e1, e2⟩ | ⟨g, cap, cur, e1, _, hg, hnc, hcm, hcs, htake⟩
    · rw [e1, run_convert_runes_nil w src dst el 0 0 (slOf_und ht hs) (kd_int hj hk) (und_str hkk hd2)]
      have : L = [] := List.eq_nil_of_length_eq_zero e2
      subst this; rfl
    · rw [e1, run_convert_runes w src dst el ⟨g, 0, none⟩ L.length cap (L.map fun b => (b.toNat : Int)) (by simp) (slOf_und ht hs) (kd_int hj hk) (und_str hkk hd2) (fun j hjl => ?_)]
      · rw [List.take_of_length_le (by simp), runesBytes_low hlow]
      · have hj2 : j < L.length := by simpa using hjl
        have hc := h1.cells (g := g) (by rw [e1]; rfl) j (.int .i32 (L[j]).toNat) (hv j L[j] (by simp [hj2]))
        rw [hc, List.getD_eq_getElem?_getD, List.getElem?_map, List.getElem?_eq_getElem hj2]
        rfl
  unfold execOp
  simp only [ho, Sem.run_bind, hrun, Result.andThen_ok, Sem.run_pure]
theorem not_bits {n : Int} (h1 : -9223372036854775808 ≤ n) (h2 : n ≤ 9223372036854775807) : IntKind.i64.wrap (((BitVec.ofInt 64 (-1) ^^^ BitVec.ofInt 64 n).toNat : Nat) : Int) = -1 - n := by
  have e : (BitVec.ofInt 64 (-1) : BitVec 64) = BitVec.allOnes 64 := by decide
  have e2 : ((2 ^ 64 : Nat) : Int) = 18446744073709551616 := by decide
  have e3 : (2 ^ 64 : Nat) = 18446744073709551616 := by decide
  rw [e, BitVec.allOnes_xor, BitVec.toNat_not, BitVec.toNat_ofInt, e2, e3]
  by_cases h : 0 ≤ n
  · have e4 : (n % 18446744073709551616).toNat = n.toNat := by omega
    rw [e4]
    have e5 : ((18446744073709551616 - 1 - n.toNat : Nat) : Int) = 18446744073709551615 - n := by omega
    rw [e5]
    simp [IntKind.wrap, IntKind.bits, IntKind.signed]
    omega
  · have e4 : (n % 18446744073709551616).toNat = (n + 18446744073709551616).toNat := by omega
    rw [e4]
    have e5 : ((18446744073709551616 - 1 - (n + 18446744073709551616).toNat : Nat) : Int) = -1 - n := by omega
    rw [e5]
    exact wrap64 (by omega) (by omega)
theorem law_xor {t : TypeId} {n : Int} (ho : o.op = .unOp .xor t x) (h : -9223372036854775808 ≤ n ∧ n ≤ 9223372036854775807) : OpLaw P N o ⟨[(x, .int .i64 n)], []⟩ (.int .i64 (-1 - n)) [] [] := law_pure fun s M A φ a w hh hr =>
  ⟨.int .i64 (-1 - n), by
    unfold execOp
    simp only [ho, hr.int hh.a, Op.unary, Op.intBits, Sem.run_bind, Sem.run_pure, Result.andThen_ok]
    exact congrArg (fun z => Result.ok (Next.value (Value.int .i64 z)) w) (not_bits h.1 h.2), .fz (.int ⟨by simp only [rng]; omega, by simp only [rng]; omega⟩)⟩
/-! ### Arrays of plain values that are compared -/
def eqI (us vs : List V) : List Nat → Bool
  | [] => true
  | i :: r => (match nth us i, nth vs i with
    | some u, some v => eqS u v
    | _, _ => false) && eqI us vs r
def okI (k : Nat) (us vs : List V) : List Nat → Bool
  | [] => true
  | i :: r => (match nth us i, nth vs i with
    | some u, some v => okS k u v
    | _, _ => false) && okI k us vs r
theorem run_eqI {us vs : List V} {xs ys : Array Value} (htb : TbOk P tb) (hE : nth tb el = some ee) (hx : Reps X A φ w us xs.toList) (hy : Reps X A φ w vs ys.toList) (d : Nat) : ∀ (is : List Nat), okI ee.knd us vs is = true → ∀ w1, (Op.eqItems (d + 1) el 1 xs ys is).run P w1 = .ok (eqI us vs is) w1
  | [], _, w1 => by simp [Op.eqItems, eqI]
  | i :: is, hok, w1 => by
    simp only [okI, Bool.and_eq_true] at hok
    obtain ⟨h1, h2⟩ := hok
    have ih := run_eqI htb hE hx hy d is h2
    cases hu : nth us i with
    | none => rw [hu] at h1; cases h1
    | some u =>
      cases hv : nth vs i with
      | none => rw [hu, hv] at h1; cases h1
      | some v =>
        rw [hu, hv] at h1
        simp only at h1
        have hu' := hu
        have hv' := hv
        rw [nth_eq] at hu hv
        obtain ⟨cx, k1, k2⟩ := hx.2 _ _ hu
        obtain ⟨cy, k3, k4⟩ := hy.2 _ _ hv
        rw [Array.getElem?_toList] at k1 k3
        obtain ⟨g1, g2⟩ := run_eqS (P := P) htb hE h1 k2 k4 d
        simp only [Op.eqItems, Nat.mul_one, Sem.run_bind, run_part_plain w1 g1 k1, run_part_plain w1 g1 k3, Result.andThen_ok, g2 w1, eqI, hu', hv']
        cases eqS u v
        · simp
        · simp [ih w1]
theorem law_neq_arr {y : Operand} {T' : TypeId} {us vs : List V} {r : Bool} {len : Nat} (htb : TbOk P tb) (ho : o.op = .binOp .neq T x y T') (hT : nth tb T = some e) (ha : e.arr = some (len, el)) (hE : nth tb el = some ee) (hc : P.cellsOf el = 1) (hq : P.eqGuardType P.depth T = false) (hok : okI ee.knd us vs (List.range len) = true) (h : (!eqI us vs (List.range len)) = r) :
    OpLaw P N o ⟨[(x, .agg us), (y, .agg vs)], []⟩ (.bool r) [] [] := law_pure fun s M A φ ac w hh hr => by
  obtain ⟨cx, e1, h1, h2, h3⟩ := rep_agg (hr.ev hh.a)
  obtain ⟨cy, e2, g1, g2, g3⟩ := rep_agg (hr.ev hh.b)
  obtain ⟨ti, d, ht⟩ := ty_at htb hT
  obtain ⟨tj, dj, hj⟩ := ty_at htb hE
  have hd : d = .array len el := by
    have := ht.arr
    rw [ha] at this
    cases d <;> simp [arrOf] at this
    rw [this.1, this.2]
  have hu : P.underlying T = some (.array len el) := by rw [ht.und, hd]
  have hrun : (Op.equalIn 10000 T (.agg cx) (.agg cy)).run P w = .ok (eqI us vs (List.range len)) w := by
    rw [run_equalIn_array (P := P) w 9999 cx cy hu hj.info, hc]
    exact run_eqI (w := w) htb hE (Reps.mk' (by simpa using h1) fun j u c hu hc => h3 j u c hu (by simpa using hc)) (Reps.mk' (by simpa using g1) fun j u c hu hc => g3 j u c hu (by simpa using hc)) 9998 _ hok w
  refine ⟨.bool r, ?_, .fz .bool⟩
  unfold execOp
  simp only [ho, e1, e2, Sem.run_bind, run_eqGuard_agg w .neq T x y cx cy hq, Result.andThen_ok, run_neq_struct, hrun, Sem.run_pure, h]
end

section
variable {P : Program} {N : Env} {l r : List Oper} {o : Oper} {tm : List (Nat × V)} {st : List (Nat × Option Blk)} {nx nt : Nat} {tr : List Tr} {K : S → List Tr → Prop} {tb : List Ty} {d T : Nat} {t t' : TypeId} {x y z : Operand} {a b n : Int} {p q : List UInt8} {u v : Bool} {e ee : Ty} {kd : IntKind}
theorem x_stI {α : Type} (f : α → V) {L : List α} {a1 a0 : α} {m i0 el sz : Nat} (j : Nat) (htb : TbOk P tb) (k : ARun P N l K r ⟨tm, (m, some (.els el sz ((L.set j a1).map f))) :: st, nx, nt⟩ (tr ++ [trOf l o ⟨[(x, .loc m i0 0), (y, f a1)], [(m, .els el sz (L.map f))]⟩ [(m, some (.els el sz ((L.set j a1).map f)))]])) (ho : o.op = .store t x y := by rfl) (hx : S.ev ⟨tm, st, nx, nt⟩ x = some (.loc m i0 0) := by rfl) (hy : S.ev ⟨tm, st, nx, nt⟩ y = some (f a1) := by rfl) (hg : guardV l o ⟨tm, st, nx, nt⟩ = some true := by rfl) (hd : o.dst = none := by rfl) (hB : S.blk ⟨tm, st, nx, nt⟩ m = some (.els el sz (L.map f)) := by rfl) (hT' : nth tb t = some e := by rfl) (hi : i0 = j := by omega) (hL : L[j]? = some a0 := by assumption) (h1 : (f a1).cells.all V.one = true := by rfl) (h2 : (f a1).cells.length = e.size := by rfl) (hp : putV (f a0) 0 (f a1) = some (f a1) := by rfl) (hel : (!(f a0).one || Nat.beq (f a1).cells.length 1) = true := by rfl) : ARun P N l K (o :: r) ⟨tm, st, nx, nt⟩ tr := r_set hg hd (law_store htb ho hT' (i := i0) (el := f a0) (by subst hi; rw [List.getElem?_map, hL]; rfl) h1 h2 hp hel (by subst hi; rw [List.map_set])) (hT hx (hT hy (hN hB h0))) k
theorem x_ldI {α : Type} (f : α → V) {L : List α} {a0 : α} {m i0 el sz : Nat} (j : Nat) (htb : TbOk P tb) (k : ARun P N l K r ⟨(d, f a0) :: tm, st, nx, nt⟩ (tr ++ [trOf l o ⟨[(x, .loc m i0 0)], [(m, .els el sz (L.map f))]⟩ []])) (ho : o.op = .load t x := by rfl) (hx : S.ev ⟨tm, st, nx, nt⟩ x = some (.loc m i0 0) := by rfl) (hg : guardV l o ⟨tm, st, nx, nt⟩ = some true := by rfl) (hd : o.dst = some d := by rfl) (hlt : Nat.blt d nt = true := by rfl) (hB : S.blk ⟨tm, st, nx, nt⟩ m = some (.els el sz (L.map f)) := by rfl) (hT' : nth tb t = some e := by rfl) (hi : i0 = j := by omega) (hL : L[j]? = some a0 := by assumption) (hv : subV (f a0).cells 0 e.agg e.size = some (f a0) := by rfl) : ARun P N l K (o :: r) ⟨tm, st, nx, nt⟩ tr := r_val hg hd hlt (law_load htb ho hT' (i := i0) (el := f a0) (by subst hi; rw [List.getElem?_map, hL]; rfl) hv) (hT hx (hN hB h0)) k
theorem x_mkN {α : Type} (f : α → V) (a0 : α) (n : Nat) {c : Int} {el sz : Nat} {z0 : V} {kc : IntKind} (htb : TbOk P tb) (k : ARun P N l K r ⟨(d, .own nx 0 n) :: tm, (nx, some (.els el sz ((List.replicate n a0).map f))) :: st, nx + 1, nt⟩ (tr ++ [trOf l o ⟨[(x, .int kd c), (y, .int kc c)], []⟩ [(nx, some (.els el sz ((List.replicate n a0).map f)))]])) (ho : o.op = .makeSlice T x y := by rfl) (hx : S.ev ⟨tm, st, nx, nt⟩ x = some (.int kd c) := by rfl) (hy : S.ev ⟨tm, st, nx, nt⟩ y = some (.int kc c) := by rfl) (hg : guardV l o ⟨tm, st, nx, nt⟩ = some true := by rfl) (hd : o.dst = some d := by rfl) (hlt : Nat.blt d nt = true := by rfl) (hT' : nth tb T = some e := by rfl) (hs : e.sl = some el := by rfl) (hE : nth tb el = some ee := by rfl) (hz : ee.zeroV = some z0 := by rfl) (hsz : ee.size = sz := by rfl) (hzl : z0.cells.length = sz := by rfl) (h0' : Nat.ble 1 sz = true := by rfl) (hf : f a0 = z0 := by rfl) (hn : c = (n : Int) := by first | rfl | omega) (hlim : n ≤ LIM := by first | omega | (simp only [LIM] at *; omega)) (hby : ee.bytes * n ≤ 281474976710656 := by show (_ : Nat) * _ ≤ _; first | (simp; done) | (simp; omega) | omega) : ARun P N l K (o :: r) ⟨tm, st, nx, nt⟩ tr := r_new rfl hg hd hlt (by have := law_makeSlice (P := P) (N := N) (ν := nx) htb ho hT' hs hE hz hsz hzl h0' hn hlim hby (kl := kd) (kc := kc); rw [List.map_replicate, hf]; exact this) (hT hx (hT hy h0)) k
theorem x_mk0 {α : Type} (f : α → V) (n : Nat) {c : Int} {el sz : Nat} {z0 : V} {kc : IntKind} (htb : TbOk P tb) (k : ARun P N l K r ⟨(d, .own nx 0 ([] : List α).length) :: tm, (nx, some (.els el sz (([] : List α).map f))) :: st, nx + 1, nt⟩ (tr ++ [trOf l o ⟨[(x, .int kd 0), (y, .int kc c)], []⟩ [(nx, some (.els el sz (([] : List α).map f)))]])) (ho : o.op = .makeSlice T x y := by rfl) (hx : S.ev ⟨tm, st, nx, nt⟩ x = some (.int kd 0) := by rfl) (hy : S.ev ⟨tm, st, nx, nt⟩ y = some (.int kc c) := by rfl) (hg : guardV l o ⟨tm, st, nx, nt⟩ = some true := by rfl) (hd : o.dst = some d := by rfl) (hlt : Nat.blt d nt = true := by rfl) (hT' : nth tb T = some e := by rfl) (hs : e.sl = some el := by rfl) (hE : nth tb el = some ee := by rfl) (hz : ee.zeroV = some z0 := by rfl) (hsz : ee.size = sz := by rfl) (hzl : z0.cells.length = sz := by rfl) (h0' : Nat.ble 1 sz = true := by rfl) (hn : c = (n : Int) := by first | rfl | omega) (hlim : n ≤ LIM := by first | omega | (simp only [LIM] at *; omega)) (hby : ee.bytes * n ≤ 281474976710656 := by show (_ : Nat) * _ ≤ _; first | (simp; done) | (simp; omega) | omega) : ARun P N l K (o :: r) ⟨tm, st, nx, nt⟩ tr := r_new rfl hg hd hlt (law_makeSlice0 htb ho hT' hs hE hz hsz hzl h0' hn hlim hby) (hT hx (hT hy h0)) k
theorem x_runes {m el : Nat} {e' : Ty} (htb : TbOk P tb) (k : ARun P N l K r ⟨(d, strT p) :: tm, st, nx, nt⟩ (tr ++ [trOf l o ⟨[(x, .own m 0 p.length)], [(m, .els el 1 (p.map runeT))]⟩ []])) (ho : o.op = .convert t t' x := by rfl) (hx : S.ev ⟨tm, st, nx, nt⟩ x = some (.own m 0 p.length) := by rfl) (hg : guardV l o ⟨tm, st, nx, nt⟩ = some true := by rfl) (hd : o.dst = some d := by rfl) (hlt : Nat.blt d nt = true := by rfl) (hB : S.blk ⟨tm, st, nx, nt⟩ m = some (.els el 1 (p.map runeT)) := by rfl) (hS : nth tb t = some e := by rfl) (hs : e.sl = some el := by rfl) (hE : nth tb el = some ee := by rfl) (hk : Nat.beq ee.knd (kcode .i32) = true := by rfl) (hD : nth tb t' = some e' := by rfl) (hd2 : Nat.beq e'.knd 2 = true := by rfl) (hlow : ∀ b ∈ p, b.toNat < 128 := by assumption) (hl : p.length ≤ SLIM := by simp only [SLIM]; omega) : ARun P N l K (o :: r) ⟨tm, st, nx, nt⟩ tr := r_val hg hd hlt (law_runesStr htb ho hS hs hE hk hD hd2 hlow hl) (hT hx (hN hB h0)) k
theorem x_xor (k : ARun P N l K r ⟨(d, .int .i64 (-1 - a)) :: tm, st, nx, nt⟩ (tr ++ [trOf l o ⟨[(x, .int .i64 a)], []⟩ []])) (ho : o.op = .unOp .xor t x := by rfl) (hx : S.ev ⟨tm, st, nx, nt⟩ x = some (.int .i64 a) := by rfl) (hg : guardV l o ⟨tm, st, nx, nt⟩ = some true := by rfl) (hd : o.dst = some d := by rfl) (hlt : Nat.blt d nt = true := by rfl) (h : -9223372036854775808 ≤ a ∧ a ≤ 9223372036854775807 := by omega) : ARun P N l K (o :: r) ⟨tm, st, nx, nt⟩ tr := r_val hg hd hlt (law_xor ho h) (hT hx h0) k
theorem x_quo (k : ARun P N l K r ⟨(d, .int kd n) :: tm, st, nx, nt⟩ (tr ++ [trOf l o ⟨[(x, .int kd a), (y, .int kd b)], []⟩ []])) (ho : o.op = .binOp .quo t x y t' := by rfl) (hx : S.ev ⟨tm, st, nx, nt⟩ x = some (.int kd a) := by rfl) (hy : S.ev ⟨tm, st, nx, nt⟩ y = some (.int kd b) := by rfl) (hg : guardV l o ⟨tm, st, nx, nt⟩ = some true := by rfl) (hd : o.dst = some d := by rfl) (hlt : Nat.blt d nt = true := by rfl) (hb : ¬ b = 0 := by decide) (h : kd.wrap (a.tdiv b) = n := by assumption) : ARun P N l K (o :: r) ⟨tm, st, nx, nt⟩ tr := r_val hg hd hlt (law_quo ho hb h) (hT hx (hT hy h0)) k
theorem x_rem (k : ARun P N l K r ⟨(d, .int kd n) :: tm, st, nx, nt⟩ (tr ++ [trOf l o ⟨[(x, .int kd a), (y, .int kd b)], []⟩ []])) (ho : o.op = .binOp .rem t x y t' := by rfl) (hx : S.ev ⟨tm, st, nx, nt⟩ x = some (.int kd a) := by rfl) (hy : S.ev ⟨tm, st, nx, nt⟩ y = some (.int kd b) := by rfl) (hg : guardV l o ⟨tm, st, nx, nt⟩ = some true := by rfl) (hd : o.dst = some d := by rfl) (hlt : Nat.blt d nt = true := by rfl) (hb : ¬ b = 0 := by decide) (h : a.tmod b = n := by assumption) (hn : InR kd n := by assumption) : ARun P N l K (o :: r) ⟨tm, st, nx, nt⟩ tr := r_val hg hd hlt (law_rem ho hb h hn) (hT hx (hT hy h0)) k
theorem x_neqR {us vs : List V} {w : Bool} {len el : Nat} (htb : TbOk P tb) (k : ARun P N l K r ⟨(d, .bool w) :: tm, st, nx, nt⟩ (tr ++ [trOf l o ⟨[(x, .agg us), (y, .agg vs)], []⟩ []])) (ho : o.op = .binOp .neq t x y t' := by rfl) (hx : S.ev ⟨tm, st, nx, nt⟩ x = some (.agg us) := by rfl) (hy : S.ev ⟨tm, st, nx, nt⟩ y = some (.agg vs) := by rfl) (hg : guardV l o ⟨tm, st, nx, nt⟩ = some true := by rfl) (hd : o.dst = some d := by rfl) (hlt : Nat.blt d nt = true := by rfl) (hT' : nth tb t = some e := by rfl) (ha : e.arr = some (len, el) := by rfl) (hE : nth tb el = some ee := by rfl) (hc : P.cellsOf el = 1 := by kernel_rfl) (hq : P.eqGuardType P.depth t = false := by kernel_rfl) (hok : okI ee.knd us vs (List.range len) = true := by rfl) (h : (!eqI us vs (List.range len)) = w := by first | assumption | rfl) : ARun P N l K (o :: r) ⟨tm, st, nx, nt⟩ tr := r_val hg hd hlt (law_neq_arr htb ho hT' ha hE hc hq hok h) (hT hx (hT hy h0)) k
theorem x_subK (k : ARun P N l K r ⟨(d, .int kd n) :: tm, st, nx, nt⟩ (tr ++ [trOf l o ⟨[(x, .int kd a), (y, .int kd b)], []⟩ []])) (ho : o.op = .binOp .sub t x y t' := by rfl) (hx : S.ev ⟨tm, st, nx, nt⟩ x = some (.int kd a) := by rfl) (hy : S.ev ⟨tm, st, nx, nt⟩ y = some (.int kd b) := by rfl) (hg : guardV l o ⟨tm, st, nx, nt⟩ = some true := by rfl) (hd : o.dst = some d := by rfl) (hlt : Nat.blt d nt = true := by rfl) (he : kd.wrap (a - b) = n := by assumption) : ARun P N l K (o :: r) ⟨tm, st, nx, nt⟩ tr := r_val hg hd hlt (law_sub' ho he) (hT hx (hT hy h0)) k
end
end Go.Proofs.YtkgdkpiacencjaaGreatDoor.Abs
end
