/- The laws of fields, loads and stores over named trees. Over any program. -/
import Derived.Test.YtefcfickggnmjaaDoorAbsT
namespace Go.Proofs.YtefcfickggnmjaaDoor.Abs
open Go.RowKit Mem Facts

def takeC : List V → Nat → Option (List V)
  | _, 0 => some []
  | c :: r, n + 1 => match takeC r n with
    | some q => some (c :: q)
    | none => none
  | [], _ + 1 => none
def dropC : List V → Nat → Option (List V)
  | l, 0 => some l
  | _ :: r, n + 1 => dropC r n
  | [], _ + 1 => none
/-- The cells from off on made those of us. -/
def setC : List V → Nat → List V → Option (List V)
  | l, 0, [] => some l
  | _ :: r, 0, u :: us => match setC r 0 us with
    | some q => some (u :: q)
    | none => none
  | c :: r, n + 1, us => match setC r n us with
    | some q => some (c :: q)
    | none => none
  | _, _, _ => none
def subV (cs : List V) (off : Nat) (agg : Bool) (n : Nat) : Option V := bif agg then (match dropC cs off with
    | some r => match takeC r n with
      | some q => some (.agg q)
      | none => none
    | none => none) else nth cs off
/-- An element with the cells from off on made those of v. -/
def putV (el : V) (off : Nat) (v : V) : Option V := match el with
  | .agg vs => match setC vs off v.cells with
    | some q => some (.agg q)
    | none => none
  | _ => match off with
    | 0 => some v
    | _ + 1 => none
theorem takeC_some : ∀ {l : List V} {n : Nat} {q : List V}, takeC l n = some q → n ≤ l.length ∧ q = l.take n
  | l, 0, q, h => by cases l <;> (simp [takeC] at h; subst h; simp)
  | [], n + 1, q, h => by simp [takeC] at h
  | c :: r, n + 1, q, h => by
    rw [takeC] at h
    cases hr : takeC r n with
    | none => rw [hr] at h; cases h
    | some p =>
      rw [hr] at h; cases h
      obtain ⟨h1, rfl⟩ := takeC_some hr
      exact ⟨by simp; omega, by simp⟩
theorem dropC_some : ∀ {l : List V} {n : Nat} {q : List V}, dropC l n = some q → n ≤ l.length ∧ q = l.drop n
  | l, 0, q, h => by cases l <;> (simp [dropC] at h; subst h; simp)
  | [], n + 1, q, h => by simp [dropC] at h
  | c :: r, n + 1, q, h => by
    rw [dropC] at h
    obtain ⟨h1, rfl⟩ := dropC_some h
    exact ⟨by simp; omega, by simp⟩
theorem setC_some : ∀ {l : List V} {n : Nat} {us q : List V}, setC l n us = some q → n + us.length ≤ l.length ∧ q = l.take n ++ us ++ l.drop (n + us.length)
  | l, 0, [], q, h => by cases l <;> (simp [setC] at h; subst h; simp)
  | [], 0, u :: us, q, h => by simp [setC] at h
  | c :: r, 0, u :: us, q, h => by
    rw [setC] at h
    cases hr : setC r 0 us with
    | none => rw [hr] at h; cases h
    | some p =>
      rw [hr] at h; cases h
      obtain ⟨h1, rfl⟩ := setC_some hr
      exact ⟨by simp at h1 ⊢; omega, by simp⟩
  | [], n + 1, us, q, h => by cases us <;> simp [setC] at h
  | c :: r, n + 1, us, q, h => by
    have h : (match setC r n us with | some q => some (c :: q) | none => none) = some q := by cases us <;> simpa [setC] using h
    cases hr : setC r n us with
    | none => rw [hr] at h; cases h
    | some p =>
      rw [hr] at h; cases h
      obtain ⟨h1, rfl⟩ := setC_some hr
      exact ⟨by simp at h1 ⊢; omega, by simp [show n + 1 + us.length = n + us.length + 1 from by omega]⟩
theorem subV_agg {cs : List V} {off n : Nat} {v : V} (h : subV cs off true n = some v) : off + n ≤ cs.length ∧ v = .agg ((cs.drop off).take n) := by
  unfold subV at h
  rw [cond_true] at h
  cases hd : dropC cs off with
  | none => rw [hd] at h; cases h
  | some r =>
    rw [hd] at h
    simp only at h
    cases ht : takeC r n with
    | none => rw [ht] at h; cases h
    | some q =>
      rw [ht] at h; cases h
      obtain ⟨h1, rfl⟩ := dropC_some hd
      obtain ⟨h2, rfl⟩ := takeC_some ht
      simp at h2
      exact ⟨by omega, rfl⟩
theorem subV_one {cs : List V} {off n : Nat} {v : V} (h : subV cs off false n = some v) : cs[off]? = some v := by
  unfold subV at h
  rw [cond_false, nth_eq] at h
  exact h

section
variable {X A : Nat → Prop} {φ : Nat → Pl} {w : World}
theorem addr_add (b o n : Nat) : (⟨b, o, none⟩ : Addr).add n = ⟨b, o + n, none⟩ := by
  unfold Addr.add
  split
  · subst_vars; rfl
  · rfl
/-- A run of cells that bear a list. -/
def Tgt (X A : Nat → Prop) (φ : Nat → Pl) (w : World) (b o : Nat) (us : List V) : Prop := ∀ (j : Nat) u, us[j]? = some u → ∃ c, w.cell? ⟨b, o + j, none⟩ = some c ∧ Rep X A φ w u c
theorem Tgt.drop {b o : Nat} {us : List V} (h : Tgt X A φ w b o us) (n : Nat) : Tgt X A φ w b (o + n) (us.drop n) := fun j u hu => by
  rw [List.getElem?_drop] at hu
  obtain ⟨c, h1, h2⟩ := h (n + j) u hu
  exact ⟨c, by rw [Nat.add_assoc]; exact h1, h2⟩
theorem Tgt.list {b o : Nat} {us : List V} (h : Tgt X A φ w b o us) : ∃ cs : List Value, cs.length = us.length ∧ (∀ (j : Nat) c, cs[j]? = some c → w.cell? ⟨b, o + j, none⟩ = some c) ∧ ∀ (i : Nat) u c, us[i]? = some u → cs[i]? = some c → Rep X A φ w u c := by
  refine ⟨(List.range us.length).map fun j => (w.cell? ⟨b, o + j, none⟩).getD undef, by simp, fun j c hc => ?_, fun i u c hu hc => ?_⟩
  · simp only [List.getElem?_map, Option.map_eq_some_iff, List.getElem?_range'] at hc
    obtain ⟨k, hk, rfl⟩ := hc
    obtain ⟨hj, rfl⟩ := List.getElem?_eq_some_iff.1 hk
    simp at hj ⊢
    obtain ⟨c, h1, _⟩ := h j us[j] (List.getElem?_eq_getElem hj)
    rw [h1]; rfl
  · have hi := (List.getElem?_eq_some_iff.1 hu).1
    simp [hi] at hc
    obtain ⟨c', h1, h2⟩ := h i u hu
    rw [h1] at hc
    simp at hc
    subst hc
    exact h2
/-- The cells of an aggregate's part. -/
theorem rep_sub {vs : List V} {cs : Array Value} (hl : vs.length = cs.size) (h1 : ∀ v ∈ vs, v.one = true) (h : ∀ (i : Nat) v c, vs[i]? = some v → cs[i]? = some c → Rep X A φ w v c) (off n : Nat) (hn : off + n ≤ vs.length) : Rep X A φ w (.agg ((vs.drop off).take n)) (.agg (cs.extract off (off + n))) := by
  refine .agg ?_ (fun v hv => h1 v (List.mem_of_mem_drop (List.mem_of_mem_take hv))) fun i v c hv hc => ?_
  · simp; omega
  · have hi : i < n := by
      have := (List.getElem?_eq_some_iff.1 hv).1
      simp at this; omega
    rw [List.getElem?_take_of_lt hi, List.getElem?_drop] at hv
    refine h (off + i) v c hv ?_
    rw [← hc]
    have : off + i < cs.size := by omega
    simp [Array.getElem?_extract]
    omega
theorem rep_loc {n i off : Nat} {x : Value} (h : Rep X A φ w (.loc n i off) x) : ∃ b, (φ n).blk = some b ∧ x = .pointer (some ⟨b, i * (φ n).sz + off, none⟩) := by
  cases h with
  | fz h => cases h
  | loc h1 h2 => exact ⟨_, h2, rfl⟩
theorem rep_fp {cs : List V} {off : Nat} {x : Value} (h : Rep X A φ w (.fp cs off) x) : ∃ b o, x = .pointer (some ⟨b, o + off, none⟩) ∧ (∀ u ∈ cs, u.one = true) ∧ Tgt X A φ w b o cs ∧ ¬ X b ∧ b < w.heap.size := by
  cases h with
  | fz h => cases h with
    | fp c h1 h2 h3 h4 h5 => exact ⟨_, _, rfl, h3, fun j u hu => ⟨c j, h4 j u hu, .fz (h5 j u hu)⟩, h1, h2⟩
theorem blk_tgt {N : Env} {M : Nat → Prop} {s : S} {a : Act} {n : Nat} {T sz : Nat} {xs : List V} {i : Nat} {el : V} (hr : Rel N M A φ s a w) (hb : s.blk n = some (.els T sz xs)) (he : xs[i]? = some el) : ∃ b, (φ n).blk = some b ∧ (φ n).sz = sz ∧ M b ∧ el.cells.length = sz ∧ (∀ u ∈ el.cells, u.one = true) ∧ Tgt (fun b => M b ∨ N b) A φ w b (i * sz) el.cells := by
  obtain ⟨h1, _, _, h2, h3 | ⟨b, cur, h3, h4, h5, h6, _, _, h8⟩⟩ := (hr.st n _ hb).2
  · rw [h3.2.1] at he; simp at he
  · obtain ⟨g1, g2⟩ := h2 el (List.mem_of_getElem? he)
    refine ⟨b, h3, h1, h4, g1, g2, fun j u hu => ?_⟩
    obtain ⟨c, hc, hrep⟩ := h8 i j el u he hu
    exact ⟨c, by simp [World.cell?, h5, hc], hrep⟩

variable {P : Program} {tb : List Ty} {T : Nat} {e : Ty}
theorem run_sub {us : List V} {b o off : Nat} {v : V} (htb : TbOk P tb) (hT : nth tb T = some e) (h1 : ∀ u ∈ us, u.one = true) (h : Tgt X A φ w b o us) (hv : subV us off e.agg e.size = some v) :
    ∃ x, (Instr.loadAt T (.pointer (some ⟨b, o + off, none⟩))).run P w = .ok x w ∧ Rep X A φ w v x := by
  obtain ⟨i, d, ht⟩ := ty_at htb hT
  cases ha : e.agg with
  | true =>
      rw [ha] at hv
      obtain ⟨hn, rfl⟩ := subV_agg hv
      have h2 : Tgt X A φ w b (o + off) ((us.drop off).take e.size) := fun j u hu => by
        have hj : j < e.size := by
          have := (List.getElem?_eq_some_iff.1 hu).1
          simp at this; omega
        rw [List.getElem?_take_of_lt hj] at hu
        exact h.drop off j u hu
      obtain ⟨cs, h3, h4, h5⟩ := h2.list
      have hlen : cs.length = e.size := by rw [h3]; simp; omega
      refine ⟨.agg cs.toArray, ?_, .agg (by simpa using h3.symm) (fun v hv => h1 v (List.mem_of_mem_drop (List.mem_of_mem_take hv))) (fun i v c hv hc => h5 i v c hv (by simpa using hc))⟩
      have hd : d.isRow = true := by
        have := ht.agg; rw [ha] at this
        cases d <;> first | rfl | (simp [aggOf] at this)
      have := run_loadVar_mid (P := P) w b (o + off) T cs d (fun j v hv => h4 j v hv) ht.und hd (by rw [ht.info, Option.map_some, ht.size, hlen])
      unfold Instr.loadAt Instr.sureAddr
      simp only [Sem.run_bind, Sem.run_pure, Result.andThen_ok, this]
  | false =>
    rw [ha] at hv
    obtain ⟨c, h2, h3⟩ := h off v (subV_one hv)
    refine ⟨c, ?_, h3⟩
    have hd : (match d with | .struct _ | .array _ _ => true | _ => false) = false := by
      have := ht.agg; rw [ha] at this
      cases d <;> first | rfl | (simp [aggOf] at this)
    unfold Instr.loadAt Instr.sureAddr loadVar isAgg
    simp only [Sem.run_bind, Sem.run_pure, Result.andThen_ok, run_underlying ht.und]
    cases d <;> first | (simp at hd; done) | simp [run_load, h2]

variable {N : Env} {o : Oper}
theorem run_sizeOf' {t : TypeId} {i : TypeInfo} (h : P.info? t = some i) : (sizeOf t).run P w = .ok i.size w := by simp [sizeOf, typeInfo, h]
theorem loc_name {n i off : Nat} {x : Value} (h : Rep X A φ w (.loc n i off) x) : A n := by
  cases h with
  | fz h => cases h
  | loc h _ => exact h
theorem law_load {x : Operand} {n i off T' sz : Nat} {xs : List V} {el v : V} (htb : TbOk P tb) (ho : o.op = .load T x) (hT : nth tb T = some e) (he : xs[i]? = some el) (hv : subV el.cells off e.agg e.size = some v) :
    OpLaw P N o ⟨[(x, .loc n i off)], [(n, .els T' sz xs)]⟩ v [] [] := law_pure fun s M A φ a w hh hr => by
  obtain ⟨b, h1, h2⟩ := rep_loc (hr.ev hh.a)
  obtain ⟨b', g1, g2, g3, g4, g5, g6⟩ := blk_tgt hr hh.n he
  rw [h1] at g1; cases g1
  rw [g2] at h2
  obtain ⟨u, k1, k2⟩ := run_sub htb hT g5 g6 hv
  refine ⟨u, ?_, k2⟩
  unfold execOp
  simp only [ho, h2, Sem.run_bind, k1, Result.andThen_ok, Sem.run_pure]
theorem law_load_fp {x : Operand} {off : Nat} {cs : List V} {v : V} (htb : TbOk P tb) (ho : o.op = .load T x) (hT : nth tb T = some e) (hv : subV cs off e.agg e.size = some v) :
    OpLaw P N o ⟨[(x, .fp cs off)], []⟩ v [] [] := law_pure fun s M A φ a w hh hr => by
  obtain ⟨b, o', h1, h2, h3, _⟩ := rep_fp (hr.ev hh.a)
  obtain ⟨u, k1, k2⟩ := run_sub htb hT h2 h3 hv
  refine ⟨u, ?_, k2⟩
  unfold execOp
  simp only [ho, h1, Sem.run_bind, k1, Result.andThen_ok, Sem.run_pure]
theorem fld_at {i : TypeInfo} {d : TypeDesc} {f off ft : Nat} (ht : TyIs P T e i d) (hf : nth e.flds f = some (off, ft)) : ∃ fs fl, d = .struct fs ∧ fs[f]? = some fl ∧ fl.offset = off ∧ fl.type = ft := by
  have h1 := ht.flds
  rw [nth_eq] at hf
  cases d with
  | struct fs =>
    simp only [fldsOf] at h1
    rw [h1] at hf
    simp only [List.getElem?_map, Option.map_eq_some_iff, Array.getElem?_toList, Prod.mk.injEq] at hf
    obtain ⟨fl, h2, h3, h4⟩ := hf
    exact ⟨fs, fl, rfl, h2, h3, h4⟩
  | _ => simp only [fldsOf] at h1; rw [h1] at hf; simp at hf
theorem run_part {ft off : Nat} {ef : Ty} {vs : List V} {cs : Array Value} {v : V} (htb : TbOk P tb) (hF : nth tb ft = some ef) (hl : vs.length = cs.size) (h1 : ∀ v ∈ vs, v.one = true) (h : ∀ (i : Nat) v c, vs[i]? = some v → cs[i]? = some c → Rep X A φ w v c) (hv : subV vs off ef.agg ef.size = some v) :
    ∃ x, (part ft cs off).run P w = .ok x w ∧ Rep X A φ w v x := by
  obtain ⟨i, d, ht⟩ := ty_at htb hF
  unfold part isAgg
  simp only [Sem.run_bind, run_underlying ht.und, Result.andThen_ok]
  cases ha : ef.agg with
  | true =>
      rw [ha] at hv
      obtain ⟨hb, rfl⟩ := subV_agg hv
      refine ⟨.agg (cs.extract off (off + ef.size)), ?_, rep_sub hl h1 h off ef.size hb⟩
      have := ht.agg; rw [ha] at this
      cases d <;> first | (simp [aggOf] at this; done) | simp [sizeOf, typeInfo, ht.info, ht.size]
  | false =>
    rw [ha] at hv
    have hv := subV_one hv
    have hi : off < cs.size := by rw [← hl]; exact (List.getElem?_eq_some_iff.1 hv).1
    have hc : cs[off]? = some cs[off] := by simp [hi]
    refine ⟨cs[off], ?_, h off v _ hv hc⟩
    have := ht.agg; rw [ha] at this
    cases d <;> first | (simp [aggOf] at this; done) | simp [hc]
theorem law_field {x : Operand} {f off ft : Nat} {ef : Ty} {vs : List V} {v : V} (htb : TbOk P tb) (ho : o.op = .field T x f) (hT : nth tb T = some e) (hf : nth e.flds f = some (off, ft)) (hF : nth tb ft = some ef) (hv : subV vs off ef.agg ef.size = some v) :
    OpLaw P N o ⟨[(x, .agg vs)], []⟩ v [] [] := law_pure fun s M A φ a w hh hr => by
  obtain ⟨cs, h1, h2, h3, h4⟩ := rep_agg (hr.ev hh.a)
  obtain ⟨i, d, ht⟩ := ty_at htb hT
  obtain ⟨fs, fl, rfl, g1, g2, g3⟩ := fld_at ht hf
  obtain ⟨u, k1, k2⟩ := run_part htb hF h2 h3 h4 hv
  refine ⟨u, ?_, k2⟩
  unfold execOp
  simp only [ho, h1, Instr.field, Sem.run_bind, run_underlying ht.und, Result.andThen_ok, g1, asAgg, Sem.run_pure, g2, g3, k1]
theorem law_fieldAddr {x : Operand} {f off ft : Nat} {ef : Ty} {n i k : Nat} (htb : TbOk P tb) (ho : o.op = .fieldAddr T x f) (hT : nth tb T = some e) (hf : nth e.flds f = some (off, ft)) (hF : nth tb ft = some ef) (h0 : Nat.ble 1 ef.size = true) :
    OpLaw P N o ⟨[(x, .loc n i k)], []⟩ (.loc n i (k + off)) [] [] := law_pure fun s M A φ a w hh hr => by
  have hrep := hr.ev hh.a
  obtain ⟨b, h1, h2⟩ := rep_loc hrep
  obtain ⟨ti, d, ht⟩ := ty_at htb hT
  obtain ⟨fi, fd, hft⟩ := ty_at htb hF
  obtain ⟨fs, fl, rfl, g1, g2, g3⟩ := fld_at ht hf
  have hA : A n := loc_name hrep
  refine ⟨.pointer (some ⟨b, i * (φ n).sz + (k + off), none⟩), ?_, .loc hA h1⟩
  have hne : ¬ ef.size = 0 := by have := Nat.le_of_ble_eq_true h0; omega
  unfold execOp
  simp only [ho, h2, Instr.fieldAt, Sem.run_bind, run_underlying ht.und, Result.andThen_ok, g1, Instr.sureAddr, Sem.run_pure, fieldPlace, g2, g3, run_sizeOf' hft.info, hft.size, if_neg hne, addr_add, Nat.add_assoc]
theorem law_fieldAddr_fp {x : Operand} {f off ft : Nat} {ef : Ty} {cs : List V} {k : Nat} (htb : TbOk P tb) (ho : o.op = .fieldAddr T x f) (hT : nth tb T = some e) (hf : nth e.flds f = some (off, ft)) (hF : nth tb ft = some ef) (h0 : Nat.ble 1 ef.size = true) :
    OpLaw P N o ⟨[(x, .fp cs k)], []⟩ (.fp cs (k + off)) [] [] := law_pure fun s M A φ a w hh hr => by
  have hrep := hr.ev hh.a
  obtain ⟨ti, d, ht⟩ := ty_at htb hT
  obtain ⟨fi, fd, hft⟩ := ty_at htb hF
  obtain ⟨fs, fl, rfl, g1, g2, g3⟩ := fld_at ht hf
  have hne : ¬ ef.size = 0 := by have := Nat.le_of_ble_eq_true h0; omega
  generalize ha : a.eval x = c at hrep
  cases hrep with
  | fz hz => cases hz with
    | @fp _ b o' _ c h1 h2 h3 h4 h5 =>
      refine ⟨.pointer (some ⟨b, o' + (k + off), none⟩), ?_, .fz (.fp c h1 h2 h3 h4 h5)⟩
      unfold execOp
      simp only [ho, ha, Instr.fieldAt, Sem.run_bind, run_underlying ht.und, Result.andThen_ok, g1, Instr.sureAddr, Sem.run_pure, fieldPlace, g2, g3, run_sizeOf' hft.info, hft.size, if_neg hne, addr_add, Nat.add_assoc]
end
end Go.Proofs.YtefcfickggnmjaaDoor.Abs
