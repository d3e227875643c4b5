/- Texts of the proof, joined: Eld, ConC, Shelf, SixtyR, SixtyL, BitsN, SixtyV, SixtyX, BitsM, ConA. -/
import Derived.Test.YtnpokgjehapmjaaDoorG11
import Derived.Recover
import Derived.Test.YtnpokgjehapmjaaDoorG8
import Derived.Test.YtnpokgjehapmjaaDoorG10
import Derived.Shelf.Strings.Trim
import Derived.Shelf.Small.Utf8
import Derived.Shelf.Small.Strs
import Derived.Shelf.Strings.Search1
import Derived.Shelf.Unicode.Decode
import Derived.Shelf.Strings.Runes
import Derived.Shelf.Strings.AsciiSet
import Derived.Shelf.Unicode.DecodeSlow
import Derived.Shelf.Unicode.DecodeAny
import Derived.Shelf.Unicode.DecodeLast
import Derived.Shelf.Slices.Turned
import Derived.Ground.Names2Prog
import Derived.Shelf.Slices.Clone
import Derived.Ground.SlgfProg
import Derived.Shelf.SlicesE.IndexFunc
import Derived.Shelf.SlicesE.DeleteFunc
import Derived.Test.YtnpokgjehapmjaaDoorProg
import Derived.Test.YtnpokgjehapmjaaDoorG2
import Derived.Laws.IdiomStrings
import Derived.Test.YtnpokgjehapmjaaDoorG1
import Derived.Test.YtnpokgjehapmjaaDoorG9
section
namespace Go.Proofs.YtnpokgjehapmjaaDoor.Abs
open Go.RowKit Mem Facts
section
variable {X A A' : Nat → Prop} {φ φ' : Nat → Pl} {w w' : World} {P : Program} {tb : List Ty} {T : Nat} {e ee e' : Ty} {N : Env} {M : Nat → Prop} {o : Oper} {s : S} {a : Act} {x y : Operand} {el : Nat} {L : List UInt8}
theorem law_eql_arr {y : Operand} {T' : TypeId} {us vs : List V} {r : Bool} {len : Nat} (htb : TbOk P tb) (ho : o.op = .binOp .eql T x y T') (hT : nth tb T = some e) (ha : e.arr = some (len, el)) (hE : nth tb el = some ee) (hc : P.cellsOf el = 1) (hq : P.eqGuardType P.depth T = false) (hok : okI ee.knd us vs (List.range len) = true) (h : eqI us vs (List.range len) = r) :
    OpLaw P N o ⟨[(x, .agg us), (y, .agg vs)], []⟩ (.bool r) [] [] := law_pure fun s M A φ ac w hh hr => by
  obtain ⟨cx, e1, h1, h2, h3⟩ := rep_agg (hr.ev hh.a)
  obtain ⟨cy, e2, g1, g2, g3⟩ := rep_agg (hr.ev hh.b)
  obtain ⟨ti, d, ht⟩ := ty_at htb hT
  obtain ⟨tj, dj, hj⟩ := ty_at htb hE
  have hd : d = .array len el := by
    have := ht.arr
    rw [ha] at this
    cases d <;> simp [arrOf] at this
    rw [this.1, this.2]
  have hu : P.underlying T = some (.array len el) := by rw [ht.und, hd]
  have hrun : (Op.equalIn 10000 T (.agg cx) (.agg cy)).run P w = .ok (eqI us vs (List.range len)) w := by
    rw [run_equalIn_array (P := P) w 9999 cx cy hu hj.info, hc]
    exact run_eqI (w := w) htb hE (Reps.mk' (by simpa using h1) fun j u c hu hc => h3 j u c hu (by simpa using hc)) (Reps.mk' (by simpa using g1) fun j u c hu hc => g3 j u c hu (by simpa using hc)) 9998 _ hok w
  refine ⟨.bool r, ?_, .fz .bool⟩
  unfold execOp
  simp only [ho, e1, e2, Sem.run_bind, run_eqGuard_agg w .eql T x y cx cy hq, Result.andThen_ok, run_eql_struct, hrun, Sem.run_pure, h]
end
section
variable {P : Program} {N : Env} {l r : List Oper} {o : Oper} {tm : List (Nat × V)} {st : List (Nat × Option Blk)} {nx nt : Nat} {tr : List Tr} {K : S → List Tr → Prop} {tb : List Ty} {d T : Nat} {t t' : TypeId} {x y z : Operand} {a b n : Int} {p q : List UInt8} {u v : Bool} {e ee : Ty} {kd : IntKind}
theorem x_stO {α : Type} (f : α → V) {L : List α} {a1 a0 : α} {w : V} {m i0 off el sz : Nat} (j : Nat) (htb : TbOk P tb) (k : ARun P N l K r ⟨tm, (m, some (.els el sz ((L.set j a1).map f))) :: st, nx, nt⟩ (tr ++ [trOf l o ⟨[(x, .loc m i0 off), (y, w)], [(m, .els el sz (L.map f))]⟩ [(m, some (.els el sz ((L.set j a1).map f)))]])) (ho : o.op = .store t x y := by rfl) (hx : S.ev ⟨tm, st, nx, nt⟩ x = some (.loc m i0 off) := by rfl) (hy : S.ev ⟨tm, st, nx, nt⟩ y = some w := by rfl) (hg : guardV l o ⟨tm, st, nx, nt⟩ = some true := by rfl) (hd : o.dst = none := by rfl) (hB : S.blk ⟨tm, st, nx, nt⟩ m = some (.els el sz (L.map f)) := by rfl) (hT' : nth tb t = some e := by rfl) (hi : i0 = j := by omega) (hL : L[j]? = some a0 := by assumption) (h1 : w.cells.all V.one = true := by rfl) (h2 : w.cells.length = e.size := by rfl) (hp : putV (f a0) off w = some (f a1) := by rfl) (hel : (!(f a0).one || Nat.beq w.cells.length 1) = true := by rfl) : ARun P N l K (o :: r) ⟨tm, st, nx, nt⟩ tr := r_set hg hd (law_store htb ho hT' (i := i0) (el := f a0) (by subst hi; rw [List.getElem?_map, hL]; rfl) h1 h2 hp hel (by subst hi; rw [List.map_set])) (hT hx (hT hy (hN hB h0))) k
theorem x_ldO {α : Type} (f : α → V) {L : List α} {a0 : α} {w : V} {m i0 off el sz : Nat} (j : Nat) (htb : TbOk P tb) (k : ARun P N l K r ⟨(d, w) :: tm, st, nx, nt⟩ (tr ++ [trOf l o ⟨[(x, .loc m i0 off)], [(m, .els el sz (L.map f))]⟩ []])) (ho : o.op = .load t x := by rfl) (hx : S.ev ⟨tm, st, nx, nt⟩ x = some (.loc m i0 off) := by rfl) (hg : guardV l o ⟨tm, st, nx, nt⟩ = some true := by rfl) (hd : o.dst = some d := by rfl) (hlt : Nat.blt d nt = true := by rfl) (hB : S.blk ⟨tm, st, nx, nt⟩ m = some (.els el sz (L.map f)) := by rfl) (hT' : nth tb t = some e := by rfl) (hi : i0 = j := by omega) (hL : L[j]? = some a0 := by assumption) (hv : subV (f a0).cells off e.agg e.size = some w := by rfl) : ARun P N l K (o :: r) ⟨tm, st, nx, nt⟩ tr := r_val hg hd hlt (law_load htb ho hT' (i := i0) (el := f a0) (by subst hi; rw [List.getElem?_map, hL]; rfl) hv) (hT hx (hN hB h0)) k
theorem x_stS {xs xs1 : List V} {w0 w : V} {m i0 off el sz : Nat} (w1 : V) (htb : TbOk P tb) (k : ARun P N l K r ⟨tm, (m, some (.els el sz xs1)) :: st, nx, nt⟩ (tr ++ [trOf l o ⟨[(x, .loc m i0 off), (y, w)], [(m, .els el sz xs)]⟩ [(m, some (.els el sz xs1))]])) (hp : putV w0 off w = some w1) (ho : o.op = .store t x y := by rfl) (hx : S.ev ⟨tm, st, nx, nt⟩ x = some (.loc m i0 off) := by rfl) (hy : S.ev ⟨tm, st, nx, nt⟩ y = some w := by rfl) (hg : guardV l o ⟨tm, st, nx, nt⟩ = some true := by rfl) (hd : o.dst = none := by rfl) (hB : S.blk ⟨tm, st, nx, nt⟩ m = some (.els el sz xs) := by rfl) (hT' : nth tb t = some e := by rfl) (hL : xs[i0]? = some w0 := by rfl) (h1 : w.cells.all V.one = true := by rfl) (h2 : w.cells.length = e.size := by rfl) (hel : (!w0.one || Nat.beq w.cells.length 1) = true := by rfl) (hs : xs.set i0 w1 = xs1 := by rfl) : ARun P N l K (o :: r) ⟨tm, st, nx, nt⟩ tr := r_set hg hd (law_store htb ho hT' (i := i0) (el := w0) hL h1 h2 hp hel hs) (hT hx (hT hy (hN hB h0))) k
theorem x_eqlR {us vs : List V} {w : Bool} {len el : Nat} (htb : TbOk P tb) (k : ARun P N l K r ⟨(d, .bool w) :: tm, st, nx, nt⟩ (tr ++ [trOf l o ⟨[(x, .agg us), (y, .agg vs)], []⟩ []])) (ho : o.op = .binOp .eql t x y t' := by rfl) (hx : S.ev ⟨tm, st, nx, nt⟩ x = some (.agg us) := by rfl) (hy : S.ev ⟨tm, st, nx, nt⟩ y = some (.agg vs) := by rfl) (hg : guardV l o ⟨tm, st, nx, nt⟩ = some true := by rfl) (hd : o.dst = some d := by rfl) (hlt : Nat.blt d nt = true := by rfl) (hT' : nth tb t = some e := by rfl) (ha : e.arr = some (len, el) := by rfl) (hE : nth tb el = some ee := by rfl) (hc : P.cellsOf el = 1 := by kernel_rfl) (hq : P.eqGuardType P.depth t = false := by kernel_rfl) (hok : okI ee.knd us vs (List.range len) = true := by rfl) (h : eqI us vs (List.range len) = w := by first | assumption | rfl) : ARun P N l K (o :: r) ⟨tm, st, nx, nt⟩ tr := r_val hg hd hlt (law_eql_arr htb ho hT' ha hE hc hq hok h) (hT hx (hT hy h0)) k
end
end Go.Proofs.YtnpokgjehapmjaaDoor.Abs
namespace Go.Proofs.YtnpokgjehapmjaaDoor.Abs
open Go.RowKit Mem Facts
section
variable {P : Program} {N : Env} {c : Code} {Q : Exit → S → Prop}
theorem fro_all {α : Type} {f : α → V} {L : List α} {m : Nat} (h : L.length = m) : V.fro (List.take m (L.map f)) = V.fro (L.map f) := by
  rw [List.take_of_length_le]
  rw [List.length_map, h]
  exact Nat.le_refl _
/-- The row n that a row's struct holds in its cell i is no more than that: a frozen slice. -/
theorem awp_freezeR {α : Type} {f : α → V} {L : List α} {tm : List (Nat × V)} {st : List (Nat × Option Blk)} {nx nt T sz T2 sz2 m : Nat} {cs cs' : List V} (n2 i n : Nat) (hm : m = L.length) (hf : ∀ a, (f a).names = []) (k : AWp P N c Q ⟨tm, (n2, some (.els T2 sz2 [.agg cs'])) :: (n, none) :: st, nx, nt⟩)
    (hB2 : S.blk ⟨tm, st, nx, nt⟩ n2 = some (.els T2 sz2 [.agg cs]) := by rfl) (hi : nth cs i = some (.own n 0 m) := by rfl) (hcs : cs.set i (.fro (L.map f)) = cs' := by rfl) (hB : S.blk ⟨tm, st, nx, nt⟩ n = some (.els T sz (L.map f)) := by rfl) (hne : Nat.beq n2 n = false := by rfl) : AWp P N c Q ⟨tm, st, nx, nt⟩ := fun M φ a w hr => by
  let M' : Nat → Prop := fun b => M b ∧ (φ n).blk ≠ some b
  let M2 : Nat → Prop := fun b => M b ∧ (φ n).blk = some b
  let N2 : Env := ⟨⟨fun b => M' b ∨ N b, N.g⟩, 0, N.pl, N.df⟩
  have hnn : n2 ≠ n := fun e => by rw [e, Nat.beq_refl] at hne; cases hne
  have hset : ∀ b, (M2 b ∨ N2 b) ↔ (M b ∨ N b) := fun b => by
    show (M b ∧ (φ n).blk = some b) ∨ (M b ∧ (φ n).blk ≠ some b) ∨ N b ↔ _
    by_cases e : (φ n).blk = some b
    · simp [e]
    · simp [e]
  obtain ⟨hn, hbk⟩ := hr.st n _ hB
  have hbl : ∀ q, S.blk ⟨[], [(n, some (.els T sz (L.map f)))], nx, nt⟩ q = if n = q then some (.els T sz (L.map f)) else none := fun q => by
    unfold S.blk
    simp only [lk_put]
    by_cases e : n = q <;> simp [e, lk]
  have r2 : Rel N2 M2 (· < nx) φ ⟨[], [(n, some (.els T sz (L.map f)))], nx, nt⟩ a w := by
    refine ⟨fun q v hq => (by cases hq), hr.nt, fun q b hb => ?_, fun q q' b b' x e1 e2 e3 e4 => ?_, fun b hb => hr.lim b ((hset b).1 hb), fun b h1 h2 => ?_, hr.df, fun q hq => absurd hq (Nat.not_lt_zero q), ?_⟩
    · rw [hbl] at hb
      split at hb
      · rename_i e
        subst e; cases hb
        refine ⟨hn, ?_⟩
        obtain ⟨h1, h2, h3, h4, h5⟩ := hbk
        refine ⟨h1, h2, h3, h4, h5.imp id ?_⟩
        rintro ⟨b, cur, g1, g2, g3, g4, g5, g6, g7⟩
        refine ⟨b, cur, g1, ⟨g2, g1⟩, g3, g4, g5, g6, fun i j x u hx hu => ?_⟩
        obtain ⟨y, hy, hq⟩ := g7 i j x u hx hu
        exact ⟨y, hy, hq.mono (fun b _ h => (hset b).1 h) (.refl _ w) (fun _ h => h) fun _ _ => rfl⟩
      · cases hb
    · rw [hbl] at e1 e2
      split at e1
      · split at e2
        · rename_i h1 h2; exact h1 ▸ h2
        · cases e2
      · cases e1
    · rcases h2 with h2 | h2
      · exact h2.2 h1.2
      · exact hr.dis b h1.1 h2
    · exact hr.gl.sub fun b h => (hset b).1 h
  have hz : ∀ x, Rep (fun b => M b ∨ N b) (· < nx) φ w (.own n 0 m) x → Fz N2 w (.fro (L.map f)) x := fun x hx => by
    have hv2 : Rep (fun b => M2 b ∨ N2 b) (· < nx) φ w (.own n 0 m) x := hx.mono (fun b _ h => (hset b).1 h) (.refl _ w) (fun _ h => h) fun _ _ => rfl
    refine r2.frz (b := fun q => if n = q then some (.els T sz (L.map f)) else none) (fun q k h => by rw [hbl]; exact h) hv2 ?_ ?_
    · show (match (if n = n then some (Blk.els T sz (L.map f)) else none) with
        | some (.els _ _ xs) => some (V.fro ((xs.drop 0).take m))
        | _ => none) = _
      rw [if_pos rfl]
      simp only [List.drop_zero]
      rw [List.take_of_length_le (by rw [List.length_map, hm]; exact Nat.le_refl _)]
    · show match (if n = n then some (Blk.els T sz (L.map f)) else none) with
        | some (.els _ _ xs) => (∀ x ∈ xs, x.names = []) ∧ 0 + m ≤ xs.length
        | _ => False
      rw [if_pos rfl]
      refine ⟨fun x hx => ?_, by rw [List.length_map, hm]; omega⟩
      obtain ⟨y, _, rfl⟩ := List.mem_map.1 hx
      exact hf y
  have hsub : ∀ b, M' b ∨ N b → M b ∨ N b := fun b h => h.imp (·.1) id
  have hbn : ∀ q, S.blk ⟨tm, (n2, some (.els T2 sz2 [.agg cs'])) :: (n, none) :: st, nx, nt⟩ q = if n2 = q then some (.els T2 sz2 [.agg cs']) else if n = q then none else S.blk ⟨tm, st, nx, nt⟩ q := fun q => by
    unfold S.blk
    simp only [lk_put]
    by_cases e : n2 = q <;> by_cases e2 : n = q <;> simp [e, e2]
  have keep : ∀ q b, S.blk ⟨tm, st, nx, nt⟩ q = some b → n ≠ q → BlkAt (fun b => M b ∨ N b) M (· < nx) φ w (φ q) b → BlkAt (fun b => M' b ∨ N b) M' (· < nx) φ w (φ q) b := fun q b hb hq g2 => by
    have hdif : ∀ y, (φ q).blk = some y → (φ n).blk ≠ some y := fun y h1 h2 => hq (hr.inj n q _ _ y hB hb h2 h1)
    cases b with
    | els T' sz' xs =>
      obtain ⟨h1, h2, h3, h4, h5⟩ := g2
      refine ⟨h1, h2, h3, h4, h5.imp id ?_⟩
      rintro ⟨b, cur, k1, k2, k3, k4, k5, k6, k7⟩
      refine ⟨b, cur, k1, ⟨k2, hdif b k1⟩, k3, k4, k5, k6, fun i j x u hx hu => ?_⟩
      obtain ⟨y, hy, hq⟩ := k7 i j x u hx hu
      exact ⟨y, hy, hq.mono (fun b _ h => hsub b h) (.refl _ w) (fun _ h => h) fun _ _ => rfl⟩
    | map es =>
      obtain ⟨b, ents, clock, k1, k2, k3, k4, k5⟩ := g2
      exact ⟨b, ents, clock, k1, ⟨k2, hdif b k1⟩, k3, k4, fun i k v e hk he => ⟨(k5 i k v e hk he).1.mono (fun b _ h => hsub b h) (.refl _ w), (k5 i k v e hk he).2.mono (fun b _ h => hsub b h) (.refl _ w) (fun _ h => h) fun _ _ => rfl⟩⟩
    | sit s pos =>
      obtain ⟨h0, b, k1, k2, k3⟩ := g2
      exact ⟨h0, b, k1, ⟨k2, hdif b k1⟩, k3⟩
  obtain ⟨hn2, hb2⟩ := hr.st n2 _ hB2
  have hrow : BlkAt (fun b => M' b ∨ N b) M' (· < nx) φ w (φ n2) (.els T2 sz2 [.agg cs']) := by
    have h0 := keep n2 _ hB2 (fun e => hnn e.symm) hb2
    obtain ⟨h1, h2, h3, h4, h5⟩ := h0
    obtain ⟨_, _, _, _, o5⟩ := hb2
    rw [nth_eq] at hi
    subst hcs
    obtain ⟨q1, q2⟩ := h4 (.agg cs) (List.mem_singleton.2 rfl)
    have hlen : (cs.set i (.fro (L.map f))).length = cs.length := List.length_set
    refine ⟨h1, h2, h3, fun x hx => ?_, ?_⟩
    · rw [List.mem_singleton] at hx
      subst hx
      refine ⟨by rw [← q1]; exact hlen, fun u hu => ?_⟩
      rcases List.mem_or_eq_of_mem_set hu with hu | rfl
      · exact q2 u hu
      · rfl
    · rcases h5 with h5 | ⟨b, cur, k1, k2, k3, k4, k5, k6, k7⟩
      · cases h5.2.1
      · rcases o5 with o5 | ⟨b', cur', o1, o2, o3, o4, o6, o7, o8⟩
        · cases o5.2.1
        rw [k1] at o1
        cases o1
        rw [k3] at o3
        cases o3
        refine .inr ⟨b, cur, k1, k2, k3, k4, k5, k6, fun p j x u hx hu => ?_⟩
        rcases p with _ | p
        · cases hx
          change (cs.set i (.fro (L.map f)))[j]? = some u at hu
          by_cases hj : i = j
          · subst hj
            have hil : i < cs.length := (List.getElem?_eq_some_iff.1 hi).1
            rw [List.getElem?_set_self hil] at hu
            cases hu
            obtain ⟨y, hy, hq⟩ := o8 0 i (.agg cs) (.own n 0 m) rfl hi
            exact ⟨y, hy, .fz ((hz y hq).mono (fun b _ h => h) (.refl _ w))⟩
          · rw [List.getElem?_set_ne hj] at hu
            exact k7 0 j (.agg cs) u rfl hu
        · cases hx
  have r3 : Rel N M' (· < nx) φ ⟨tm, (n2, some (.els T2 sz2 [.agg cs'])) :: (n, none) :: st, nx, nt⟩ a w := by
    refine ⟨fun q v hq => ?_, hr.nt, fun q b hb => ?_, fun q q' b b' x e1 e2 e3 e4 => ?_, fun b hb => hr.lim b (hsub b hb), fun b h1 h2 => hr.dis b h1.1 h2, hr.df, hr.pin, hr.gl.sub hsub⟩
    · obtain ⟨g1, g2⟩ := hr.tm q v hq
      exact ⟨g1, g2.mono (fun b _ h => hsub b h) (.refl _ w) (fun _ h => h) fun _ _ => rfl⟩
    · rw [hbn] at hb
      split at hb
      · rename_i e
        subst e; cases hb
        exact ⟨hn2, hrow⟩
      · split at hb
        · cases hb
        · rename_i h1 h2
          obtain ⟨g1, g2⟩ := hr.st q b hb
          exact ⟨g1, keep q b hb h2 g2⟩
    · have old : ∀ q b, S.blk ⟨tm, (n2, some (.els T2 sz2 [.agg cs'])) :: (n, none) :: st, nx, nt⟩ q = some b → ∃ b0, S.blk ⟨tm, st, nx, nt⟩ q = some b0 := fun q b hb => by
        rw [hbn] at hb
        split at hb
        · rename_i e; subst e; exact ⟨_, hB2⟩
        · split at hb
          · cases hb
          · exact ⟨_, hb⟩
      obtain ⟨b0, e1'⟩ := old q b e1
      obtain ⟨b1, e2'⟩ := old q' b' e2
      exact hr.inj q q' b0 b1 x e1' e2' e3 e4
  refine wp_mono (k M' φ a w r3) fun e a' w' ⟨M3, φ3, s3, h1, h2, h3, h4⟩ => ⟨M3, φ3, s3, ⟨h1.os, h1.tape, h1.output, h1.size, fun b hb hM => h1.block b hb fun h => hM h.1⟩, fun b hb h => (h2 b hb h).1, h3, h4⟩
end
end Go.Proofs.YtnpokgjehapmjaaDoor.Abs
namespace Go.Proofs.YtnpokgjehapmjaaDoor.Abs
open Go.RowKit Mem Facts
/-- THE CONTRACT of a call that panics: of the rows that it was handed nothing is told. -/
def MPanG (P : Program) (g : Glob) (f : FuncId) (args : List V) (st : List Blk) (ch : List PanicEntry) : Prop :=
  ∀ (N M : Nat → Prop) (φ : Nat → Pl) (w : World) (vs : Array Value), RowsAt g N M (· < st.length) φ (st.map some) w → args.length = vs.size →
    (∀ (i : Nat) v x, args[i]? = some v → vs[i]? = some x → Rep (fun b => M b ∨ N b) (· < st.length) φ w v x) →
    Calls P f vs w (fun e w' => e = .panicked ch ∧ Stays M w w')
def MPan (P : Program) (f : FuncId) (args : List V) (st : List Blk) (ch : List PanicEntry) : Prop := ∀ g, MPanG P g f args st ch
def PEnd (ch : List PanicEntry) : Exit → S → Prop
  | .panic ch', _ => ch' = ch
  | _, _ => False
section
variable {P : Program} {tb : List Ty} {N : Env} {M A : Nat → Prop} {φ : Nat → Pl} {s : S} {a : Act} {w w' : World} {o : Oper} {l : List Oper} {Q : Exit → S → Prop}
theorem mpanG_of {g : Glob} {f : FuncId} {fn : Func} {c : Code} {args : List V} {st : List Blk} {ch : List PanicEntry} (hf : P.funcs[f]? = some fn) (hb : fn.body = some c) (hn : Nat.ble args.length fn.ntmps = true)
    (h : ∀ (bl : Nat → Prop) (pl : Nat → Pl), AWp P ⟨⟨bl, g⟩, st.length, pl, []⟩ c (PEnd ch) ⟨argTm args 0, rowsFrom st 0, st.length, fn.ntmps⟩) : MPanG P g f args st ch := fun N M φ w vs hrow hl hv => by
  have hnt : args.length ≤ fn.ntmps := Nat.le_of_ble_eq_true hn
  have eb : ∀ n, S.blk ⟨argTm args 0, rowsFrom st 0, st.length, fn.ntmps⟩ n = st[n]? := fun n => by
    have e := lk_rows st 0 n
    rw [if_pos (Nat.zero_le _), Nat.sub_zero] at e
    unfold S.blk
    rw [e]
    cases st[n]? <;> rfl
  have em : ∀ n k, st[n]? = some k → (st.map some)[n]? = some (some k) := fun n k h => by rw [List.getElem?_map, h]; rfl
  refine calls_of_wp hf hb (wp_mono (h N φ M φ _ w ⟨fun t v ht => ?_, ?_, fun n k hk => ?_, fun n n' k k' b h1 h2 => ?_, hrow.lim, hrow.dis, rfl, fun n hn => ⟨hn, rfl⟩, hrow.gl⟩) ?_)
  · change lk (argTm args 0) t = some v at ht
    rw [lk_arg, if_pos (Nat.zero_le _), Nat.sub_zero] at ht
    have hlt : t < args.length := (List.getElem?_eq_some_iff.1 ht).1
    refine ⟨Nat.lt_of_lt_of_le hlt hnt, ?_⟩
    have hvt : vs[t]? = some vs[t] := by simp [show t < vs.size by omega]
    have e : (vs ++ Array.replicate (fn.ntmps - vs.size) undef).getD t undef = vs[t]'(by omega) := by
      rw [Array.getD_eq_getD_getElem?, Array.getElem?_append_left (by omega), hvt]; rfl
    rw [e]
    exact hv t v _ ht hvt
  · simp; omega
  · rw [eb] at hk
    exact hrow.st n k (em n k hk)
  · rw [eb] at h1 h2
    exact hrow.inj n n' k k' b (em _ _ h1) (em _ _ h2)
  · rintro e a' w' ⟨M', φ', s', h1, h2, h3, h4⟩
    cases e with
    | panic c => exact ⟨h3.df, by rw [show c = ch from h4], h1⟩
    | _ => exact h4.elim
/-- An operation that panics: what it changes lies in the rows ns. -/
def PanLaw (P : Program) (N : Env) (o : Oper) (fp : Fp) (ch : List PanicEntry) (ns : List Nat) : Prop :=
  ∀ s M A φ a w, Holds fp s → Rel N M A φ s a w →
    o.wp P a w (fun _ _ => False) (fun e a' w' => e = .panic ch ∧ a' = a ∧ ∃ H : Nat → Prop, (∀ b, H b → M b) ∧ (∀ n k b, s.blk n = some k → n ∉ ns → (φ n).blk = some b → ¬ H b) ∧ Stays H w w')
/-- At the state s the operation o panics, and Q holds of what is left: the rows but ns. -/
structure PanAt (P : Program) (N : Env) (l : List Oper) (o : Oper) (Q : Exit → S → Prop) (s : S) : Prop where
  ex : ∃ fp ch ns, guardV l o s = some true ∧ PanLaw P N o fp ch ns ∧ Holds fp s ∧ Q (.panic ch) ⟨s.tm, ns.map (fun n => (n, none)) ++ s.st, s.nx, s.nt⟩
theorem lk_drop {ns : List Nat} {st : List (Nat × Option Blk)} {n : Nat} : lk (ns.map (fun n => (n, (none : Option Blk))) ++ st) n = if n ∈ ns then some none else lk st n := by
  induction ns with
  | nil => simp
  | cons m r ih =>
    rw [List.map_cons, List.cons_append, lk]
    by_cases h : m = n
    · subst h
      simp
    · have h' : Nat.beq m n = false := by
        cases hb : Nat.beq m n with
        | false => rfl
        | true => exact absurd (Nat.eq_of_beq_eq_true hb) h
      simp only [h', cond_false, ih]
      by_cases h2 : n ∈ r
      · rw [if_pos h2, if_pos (by simp [h2])]
      · rw [if_neg h2, if_neg (by simp [h2]; exact fun e => h e.symm)]
theorem pan_post {fp : Fp} {ch : List PanicEntry} {ns : List Nat} (law : PanLaw P N o fp ch ns) (hh : Holds fp s) (hr : Rel N M (· < s.nx) φ s a w) (hq : Q (.panic ch) ⟨s.tm, ns.map (fun n => (n, none)) ++ s.st, s.nx, s.nt⟩) {K : Act → World → Prop} : o.wp P a w K (Post N Q M w) := by
  have h := law s M _ φ a w hh hr
  have key : ∀ e a' w', (e = Exit.panic ch ∧ a' = a ∧ ∃ H : Nat → Prop, (∀ b, H b → M b) ∧ (∀ n k b, s.blk n = some k → n ∉ ns → (φ n).blk = some b → ¬ H b) ∧ Stays H w w') → Post N Q M w e a' w' := by
    rintro e a' w' ⟨rfl, rfl, H, h1, h2, h3⟩
    have hsM : Stays M w w' := ⟨h3.os, h3.tape, h3.output, h3.size, fun b hb hm => h3.block b hb fun h => hm (h1 b h)⟩
    have hsX : Stays (fun b => M b ∨ N b) w w' := ⟨h3.os, h3.tape, h3.output, h3.size, fun b hb hm => h3.block b hb fun h => hm (.inl (h1 b h))⟩
    have hbk : ∀ n k, S.blk ⟨s.tm, ns.map (fun n => (n, none)) ++ s.st, s.nx, s.nt⟩ n = some k → n ∉ ns ∧ s.blk n = some k := fun n k hk => by
      unfold S.blk at hk
      rw [show S.st ⟨s.tm, ns.map (fun n => (n, none)) ++ s.st, s.nx, s.nt⟩ = ns.map (fun n => (n, none)) ++ s.st from rfl, lk_drop] at hk
      by_cases hn : n ∈ ns
      · rw [if_pos hn] at hk; cases hk
      · rw [if_neg hn] at hk; exact ⟨hn, hk⟩
    refine ⟨M, φ, ⟨s.tm, ns.map (fun n => (n, none)) ++ s.st, s.nx, s.nt⟩, hsM, fun _ _ h => h, ⟨fun t v ht => ⟨(hr.tm t v ht).1, (hr.tm t v ht).2.mono (fun _ _ h => h) hsX (fun _ h => h) fun _ _ => rfl⟩, hr.nt, fun n k hk => ?_, fun n n' k k' b e1 e2 => ?_, fun b hb => Nat.lt_of_lt_of_le (hr.lim b hb) h3.size, hr.dis, hr.df, hr.pin, hr.gl.stays hsX fun _ _ h => h⟩, hq⟩
    · obtain ⟨g1, g2⟩ := hbk n k hk
      have := hr.st n k g2
      exact ⟨this.1, this.2.mono (fun _ _ h => h) hsX (fun _ h => h) (fun _ _ => rfl) (fun _ h => h) fun b hb => h3.block b (hr.lim b (.inl (hr.lt_blk g2 hb))) (h2 n k b g2 g1 hb)⟩
    · exact hr.inj n n' k k' b (hbk n k e1).2 (hbk n' k' e2).2
  unfold Oper.wp at *
  revert h
  generalize (execOp a.eval o).run P w = q
  intro h
  cases q with
  | ok x w1 =>
    cases x <;> simp only [Oper.upon] at h ⊢ <;>
      first
        | exact h.elim
        | exact Calls.mono h (fun e w'' he => by
            cases e with
            | returned v => exact he.elim
            | panicked c => exact key _ _ _ ⟨he.1, rfl, he.2.2⟩
            | outgrown => obtain ⟨a3, w3, he⟩ := he; cases he.1)
        | exact Rows.mono h (fun _ _ h => h.elim)
  | halt x w1 => cases x <;> simp only [Oper.upon] at h ⊢ <;> first | exact h.elim | exact key _ _ _ h | exact key _ _ _ ⟨h.1, rfl, h.2.2⟩
theorem arun_pan {post : List Oper} {r : List Oper} {tr : List Tr} (h : ARun P N l (fun s _ => PanAt P N l o Q s) r s tr) : ∀ M φ a w, Rel N M (· < s.nx) φ s a w → wpList P l.toArray (Post N Q M w) (r ++ o :: post) a w := by
  induction h with
  | nil h =>
    intro M φ a w hr
    obtain ⟨fp, ch, ns, hg, law, hh, hq⟩ := h.ex
    refine wpList_step fun K hK => ?_
    rw [if_pos (guard_wanted hg hr)]
    exact pan_post law hh hr hq
  | @on o r s tr fp v up new nx hg hl hh hn hd _ ih =>
    intro M φ a w hr
    refine wpList_step fun K hK => ?_
    rw [if_pos (guard_wanted hg hr)]
    refine wp_sure (Oper.wp_mono (fun a' w' ⟨M', φ', h1, h2, h3⟩ => hK a' w' ?_) (hl s M _ φ a w hh hr (fun n h9 h8 => Nat.lt_irrefl _ (Nat.lt_of_lt_of_le h8 (hn.2 n h9).1)) hd))
    have h4 : Rel N M' (· < nx) φ' (s.eff o.dst v up nx) a' w' := (h3.wider (A' := (· < nx)) fun n h => h.elim (fun h => Nat.lt_of_lt_of_le h hn.1) fun h => (hn.2 n h).2).as (fun _ => rfl) (fun _ => rfl) rfl
    have := ih M' φ' a' w' h4
    exact list_post h1 h2 this
  | @off o r s tr hg hd _ ih =>
    intro M φ a w hr
    refine wpList_step fun K hK => ?_
    rw [if_neg (by rw [guard_wanted hg hr]; decide)]
    exact hK _ _ (ih M φ _ w (rel_dst hr (.fz .und) hd))
/-- A region that draws nothing, whose operation number n panics. -/
theorem awp_regionP {id : Nat} {post : List Oper} (n : Nat) (h : ARun P N l (fun s _ => PanAt P N l o Q s) (l.take n) s []) (hl : l.drop n = o :: post := by rfl) : AWp P N (.region id l.toArray false) Q s := fun M φ a w hr => wp_region_lit (by
  have := arun_pan (post := post) h M φ a w hr
  rw [← hl, List.take_append_drop] at this
  exact this)
theorem r_end {K : S → List Tr → Prop} {tr : List Tr} (h : K s tr) : ARun P N l K [] s tr := .nil h
/-- 'panic(x)', x a struct of one number. -/
theorem rep_one {X A : Nat → Prop} {w : World} {k : IntKind} {n : Int} {y : Value} (h : Rep X A φ w (.agg [.int k n]) y) : y = .agg #[.int k n] := by
  obtain ⟨cs, rfl, hlen, _, hat⟩ := rep_agg h
  obtain ⟨cs⟩ := cs
  match cs, hlen with
  | [c], _ =>
    have := rep_int (hat 0 _ c rfl rfl)
    rw [this]
theorem rep_ifv {X A : Nat → Prop} {w : World} {t : TypeId} {v : V} {y : Value} (h : Rep X A φ w (.ifc t v) y) : ∃ u, y = .iface t u ∧ Rep X A φ w v u := by
  cases h with
  | fz h => cases h with | ifc h => exact ⟨_, rfl, .fz h⟩
  | ifc h => exact ⟨_, rfl, h⟩
theorem pan_instr {x : Operand} {T : TypeId} {k : IntKind} {n : Int} (ho : o.op = .panic x) : PanLaw P N o ⟨[(x, .ifc T (.agg [.int k n]))], []⟩ [{ v := .iface T (.agg #[.int k n]), recovered := false }] [] := fun s M A φ a w hh hr => by
  obtain ⟨u, hu, h2⟩ := rep_ifv (hr.ev hh.a)
  rw [rep_one h2] at hu
  unfold Oper.wp execOp
  simp only [ho, hu]
  exact ⟨rfl, rfl, fun _ => False, fun _ h => h.elim, fun _ _ _ _ _ _ h => h, .refl _ w⟩
theorem pan_mcall {f : Nat} {xs : Array Operand} {ts : Array TypeId} {args vs : List V} {st bs : List Blk} {ch : List PanicEntry} (ns : List Nat) (ho : o.op = .call { callee := .value (.func f), args := xs, argTypes := ts })
    (hc : ∀ (fs : Array Value) (w : World), (callFunc f fs).run P w = .ok (.enter f fs) w) (h : MPanG P N.g f args st ch) (hargs : renOL ns args = some vs) (hl : vs.length = xs.size) (hst : RenBs ns st bs) (hlen0 : Nat.beq ns.length st.length = true) (hdis : distinctB ns = true) : PanLaw P N o ⟨tsOf xs.toList vs, zipB ns bs⟩ ch ns := fun s M A φ a w hh hr => by
  have hlen := Nat.eq_of_beq_eq_true hlen0
  have hop : ∃ gs : Array Value, (execOp a.eval o).run P w = .ok (.enter f gs) w ∧ vs.length = gs.size ∧ ∀ (i : Nat) v x, vs[i]? = some v → gs[i]? = some x → Rep (fun b => M b ∨ N b) A φ w v x := ⟨_, run_call ho hc, by simpa using hl, fun i v x hv hx => by
    simp only [Array.getElem?_map, Option.map_eq_some_iff] at hx
    obtain ⟨p, hp, rfl⟩ := hx
    exact hr.ev (ts_at hh i p v (by simpa using hp) hv)⟩
  obtain ⟨gs, hrun, hgl, hgv⟩ := hop
  unfold Oper.wp
  rw [hrun]
  obtain ⟨a1, a2⟩ := renOL_ren hargs
  rw [renL_map] at a1
  have hinj := distinct_inj hdis
  have hrow : ∀ n k, st[n]? = some k → ∃ c, s.blk (nm ns n) = some c ∧ RenB ns k c := fun n k hk => by
    obtain ⟨c, hc, hren⟩ := hst.at n k hk
    have hn : n < ns.length := by rw [hlen]; exact (List.getElem?_eq_some_iff.1 hk).1
    have e : ns[n]? = some ns[n] := by simp [hn]
    have := hh.2 _ (zipB_at n e hc)
    refine ⟨c, ?_, hren⟩
    have e2 : nth ns n = some ns[n] := by rw [nth_eq]; exact e
    rw [(nm_of e2).1]; exact this
  let H : Nat → Prop := fun b => ∃ n, n < ns.length ∧ (φ (nm ns n)).blk = some b
  have hHM : ∀ b, H b → M b := fun b ⟨n, hn, hb⟩ => by
    obtain ⟨c, hc, _⟩ := hrow n _ (List.getElem?_eq_getElem (by omega))
    exact hr.lt_blk hc hb
  have hX : ∀ b, (H b ∨ ((M b ∧ ¬ H b) ∨ N b)) → M b ∨ N b := fun b hb => by
    rcases hb with hb | hb | hb
    · exact .inl (hHM b hb)
    · exact .inl hb.1
    · exact .inr hb
  have rows : RowsAt N.g (fun b => (M b ∧ ¬ H b) ∨ N b) H (· < st.length) (fun n => φ (nm ns n)) (st.map some) w := by
    refine ⟨fun n k hk => ?_, fun n n' k k' b e1 e2 e3 e4 => ?_, fun b hb => hr.lim b (hX b hb), fun b hb hn => ?_, hr.gl.sub hX⟩
    · have hk : st[n]? = some k := by simpa using hk
      have hn : n < ns.length := by rw [hlen]; exact (List.getElem?_eq_some_iff.1 hk).1
      obtain ⟨c, hc, hren⟩ := hrow n k hk
      exact ⟨by rw [← hlen]; exact hn, BlkAt.ren_back (fun b _ h => hX b h) hren (fun m hm => ⟨by rw [← hlen]; exact hm, rfl⟩) (fun b hb _ => ⟨n, hn, hb⟩) (hr.st _ _ hc).2⟩
    · have e1 : st[n]? = some k := by simpa using e1
      have e2 : st[n']? = some k' := by simpa using e2
      obtain ⟨c, hc, _⟩ := hrow n k e1
      obtain ⟨c', hc', _⟩ := hrow n' k' e2
      have h1 : n < ns.length := by rw [hlen]; exact (List.getElem?_eq_some_iff.1 e1).1
      have h2 : n' < ns.length := by rw [hlen]; exact (List.getElem?_eq_some_iff.1 e2).1
      exact hinj n n' h1 h2 (hr.inj _ _ _ _ b hc hc' e3 e4)
    · rcases hn with hn | hn
      · exact hn.2 hb
      · exact hr.dis b (hHM b hb) hn
  refine Calls.mono (h (fun b => (M b ∧ ¬ H b) ∨ N b) H (fun n => φ (nm ns n)) w gs rows (by rw [← hgl, a1]; simp) fun i v x hv hx => ?_) ?_
  · have hvs : vs[i]? = some (v.ren (nm ns)) := by rw [a1]; simp [hv]
    refine Rep.ren (ρ := nm ns) (fun n hn => ⟨?_, rfl⟩) ((hgv i _ x hvs hx).mono (fun b _ h => hX b h) (.refl _ w) (fun _ h => h) fun _ _ => rfl)
    rw [← hlen]
    exact a2 n (mem_namesL.2 ⟨v, List.mem_of_getElem? hv, hn⟩)
  · rintro e w' ⟨rfl, hs⟩
    refine ⟨rfl, rfl, H, hHM, fun n k b hk hn hb hH => ?_, hs⟩
    obtain ⟨m, hm, hmb⟩ := hH
    obtain ⟨c, hc, _⟩ := hrow m _ (List.getElem?_eq_getElem (by omega))
    have e := hr.inj n (nm ns m) _ _ b hk hc hb hmb
    have e2 : nth ns m = some ns[m] := by rw [nth_eq]; simp [hm]
    rw [(nm_of e2).1] at e
    exact hn (e ▸ List.getElem_mem hm)
end
section
variable {P : Program} {N : Env} {l : List Oper} {o : Oper} {tm : List (Nat × V)} {st : List (Nat × Option Blk)} {nx nt : Nat} {Q : Exit → S → Prop}
/-- The region's operation is a call that panics. -/
theorem p_call {f : Nat} {xs : Array Operand} {ts : Array TypeId} {args vs : List V} {sts bs : List Blk} {ch : List PanicEntry} (ns : List Nat) (h : MPanG P N.g f args sts ch) (k : Q (.panic ch) ⟨tm, ns.map (fun n => (n, none)) ++ st, nx, nt⟩)
    (ho : o.op = .call { callee := .value (.func f), args := xs, argTypes := ts } := by rfl) (hx : evL ⟨tm, st, nx, nt⟩ xs.toList = some vs := by rfl) (hb : rowsL ⟨tm, st, nx, nt⟩ ns = some bs := by rfl) (hc : hasBody P f = true := by kernel_rfl) (hargs : renOL ns args = some vs := by rfl) (hst : RenBs ns sts bs := by repeat' first | exact RenBs.nil | apply RenBs.cons | exact RenB.same (nl_map fun _ => rfl) | exact RenB.ren rfl | exact RenB.sit | exact RenB.map (map_nl fun _ => rfl) | exact RenB.map (by assumption)) (hlen : Nat.beq ns.length sts.length = true := by rfl) (hdis : distinctB ns = true := by rfl) (hg : guardV l o ⟨tm, st, nx, nt⟩ = some true := by rfl) : PanAt P N l o Q ⟨tm, st, nx, nt⟩ :=
  ⟨_, ch, ns, hg, pan_mcall ns ho (enters hc) h hargs (ev_len hx) hst hlen hdis, ts_of hx (rowsL_at hb), k⟩
theorem p_panic {x : Operand} {T : TypeId} {k0 : IntKind} {n : Int} (k : Q (.panic [{ v := .iface T (.agg #[.int k0 n]), recovered := false }]) ⟨tm, st, nx, nt⟩) (ho : o.op = .panic x := by rfl) (hx : S.ev ⟨tm, st, nx, nt⟩ x = some (.ifc T (.agg [.int k0 n])) := by rfl) (hg : guardV l o ⟨tm, st, nx, nt⟩ = some true := by rfl) : PanAt P N l o Q ⟨tm, st, nx, nt⟩ := ⟨_, _, [], hg, pan_instr ho, hT hx h0, k⟩
end
end Go.Proofs.YtnpokgjehapmjaaDoor.Abs
namespace Go.Proofs.YtnpokgjehapmjaaDoor.Abs
open Go.RowKit Mem Facts
section
variable {P : Program} {tb : List Ty} {N : Env} {M A : Nat → Prop} {φ : Nat → Pl} {s : S} {a : Act} {w : World} {o : Oper} {l : List Oper}
/-- What a function's end gives. -/
theorem ends_run {fn : Func} {rs : List ResultVar} {r : V} (htb : TbOk P tb) (hrs : fn.results.toList = rs) (hr : Rel N M A φ s a w) (he : Ends tb rs s r) : ∃ v, (results fn a.tmps).run P w = .ok v w ∧ Fz N w r v := by
  obtain ⟨ws, us, g1, g2, g3, g4⟩ := he
  subst hrs
  obtain ⟨xs, k1, k2, k3⟩ := run_resVs htb hr g1
  obtain ⟨l1, l2⟩ := frzL_some g2
  have hfz : ∀ (i : Nat) u x, us[i]? = some u → xs[i]? = some x → Fz N w u x := fun i u x hu hx => by
    have hil : i < ws.length := by rw [l1]; exact (List.getElem?_eq_some_iff.1 hu).1
    obtain ⟨u', m1, m2⟩ := l2 i ws[i] (List.getElem?_eq_getElem hil)
    rw [hu] at m1; cases m1
    exact hr.frz (fun _ _ h => h) (k3 i ws[i] x (List.getElem?_eq_getElem hil) hx) m2 (frzOkL_at g3 _ (List.getElem_mem hil))
  have hrun : (results fn a.tmps).run P w = .ok (if h : xs.toArray.size = 1 then xs.toArray[0] else .tuple xs.toArray) w := by
    unfold results
    rw [Array.mapM_eq_mapM_toList]
    have e : ∀ (m : Sem (List Value)), m.run P w = .ok xs w → (List.toArray <$> m).run P w = .ok xs.toArray w := fun m hm => by
      have : (List.toArray <$> m) = (m >>= fun l => pure l.toArray) := rfl
      rw [this]
      simp only [Sem.run_bind, hm, Result.andThen_ok, Sem.run_pure]
    simp only [Sem.run_bind]
    erw [e _ k1]
    simp only [Result.andThen_ok, Sem.run_pure]
  refine ⟨_, hrun, ?_⟩
  subst g4
  match us, xs, l1, k2, hfz with
  | [u], [x], _, _, hfz => exact hfz 0 u x rfl rfl
  | [], [], _, _, _ => exact .tup rfl (fun i v c h => by simp at h)
  | u1 :: u2 :: us, x1 :: x2 :: xs, l1, k2, hfz => exact .tup (by simp at l1 k2 ⊢; omega) (fun i v c hv hc => hfz i v c hv (by simpa using hc))
  | [], _ :: _, l1, k2, _ => simp at l1 k2; simp [l1] at k2
  | _ :: _, [], l1, k2, _ => simp at l1 k2; simp [k2] at l1
  | [_], _ :: _ :: _, l1, k2, _ => simp at l1 k2; omega
  | _ :: _ :: _, [_], l1, k2, _ => simp at l1 k2; omega
/-- 'x.(T)' of what is a T. -/
theorem law_assert {x : Operand} {xT t : TypeId} {v : V} {d : TypeDesc} (ho : o.op = .typeAssert x xT t true) (ht : P.underlying t = some d) (hd : (match d with | .interface _ => false | _ => true) = true) : OpLaw P N o ⟨[(x, .ifc t v)], []⟩ (.tup [v, .bool true]) [] [] := law_pure fun s M A φ a w hh hr => by
  obtain ⟨u, hu, h2⟩ := rep_ifv (hr.ev hh.a)
  refine ⟨.tuple #[u, .bool true], ?_, .tup rfl fun i x c hx hc => ?_⟩
  · unfold execOp
    simp only [ho, hu, Instr.typeAssert, Sem.run_bind, run_underlying ht, Result.andThen_ok]
    cases d <;> first | (simp at hd; done) | (simp [Sem.run_pure])
  · have hi : i < 2 := (List.getElem?_eq_some_iff.1 hx).1
    have : i = 0 ∨ i = 1 := by omega
    rcases this with rfl | rfl <;> (cases hx; cases hc)
    · exact h2
    · exact .fz .bool
end
/-! ### The deferred call -/
section
variable {P : Program} {Q : Exit → Act → List Frame → World → Prop} {a : Act} {cs : List Frame} {w : World} {ops : Array Oper} {o : Oper} {i : Nat} {rest : List Nat}
theorem opsS_no (ho : ops[i]? = some o) (hw : Region.wanted o (yielded ops a.tmps) = true) (hr : (execOp a.eval o).run P w = .ok .recover w) (hn : recoverD cs = none) (k : wpOpsS P ops Q rest (a.put o.dst .nilIface) cs w) : wpOpsS P ops Q (i :: rest) a cs w := by
  simp only [wpOpsS, ho, hw, if_true, hr, hn]
  exact k
theorem opsS_yes {v : Value} {cs' : List Frame} (ho : ops[i]? = some o) (hw : Region.wanted o (yielded ops a.tmps) = true) (hr : (execOp a.eval o).run P w = .ok .recover w) (hn : recoverD cs = some (v, cs')) (k : wpOpsS P ops Q rest (a.put o.dst v) cs' w) : wpOpsS P ops Q (i :: rest) a cs w := by
  simp only [wpOpsS, ho, hw, if_true, hr, hn]
  exact k
theorem opsS_val {v : Value} (ho : ops[i]? = some o) (hw : Region.wanted o (yielded ops a.tmps) = true) (hr : (execOp a.eval o).run P w = .ok (.value v) w) (k : wpOpsS P ops Q rest (a.put o.dst v) cs w) : wpOpsS P ops Q (i :: rest) a cs w := by
  simp only [wpOpsS, ho, hw, if_true, hr]
  exact k
end
/-! ### The part ahead of the deferring one -/
/-- As AWp; what stands behind is any word that is kept as the world goes on. -/
def BWp (P : Program) (N : Env) (c : Code) (J : (Nat → Prop) → (Nat → Pl) → Exit → Act → World → Prop) (s : S) : Prop :=
  ∀ M φ a w, Rel N M (· < s.nx) φ s a w → c.wp P (fun e a' w' => ∃ M' φ', Stays M w w' ∧ (∀ b, b < w.heap.size → M' b → M b) ∧ J M' φ' e a' w') a w
theorem bwp_seq {P : Program} {N : Env} {x y : Code} {J : (Nat → Prop) → (Nat → Pl) → Exit → Act → World → Prop} {s : S} (h : AWp P N x (AThen (fun s' => BWp P N y J s') fun _ _ => False) s) : BWp P N (.seq x y) J s := fun M φ a w hr => by
  refine wp_seq (wp_mono (h M φ a w hr) fun e a' w' ⟨M', φ', s', h1, h2, h3, h4⟩ => ?_)
  cases e with
  | normal =>
    exact wp_mono (h4 M' φ' a' w' h3) fun e a2 w2 ⟨M2, φ2, g1, g2, g3⟩ => ⟨M2, φ2, h1.trans g1 h2, fun b hb h => h2 b hb (g2 b (Nat.lt_of_lt_of_le hb h1.size) h), g3⟩
  | _ => exact h4.elim
end Go.Proofs.YtnpokgjehapmjaaDoor.Abs
end

section
namespace Go.Proofs.YtnpokgjehapmjaaDoor.ConC
open Go.RowKit Mem Abs Scan BitsP ConP ConQ

abbrev natV (n : Nat) : V := .int .i64 (n : Int)
abbrev natsV (l : List Nat) : V := .fro (l.map natV)
abbrev intsV (L : List Int) : V := .fro (L.map (V.int .i64))
abbrev purV (P : Nat → Bool) : List V := [.bool (P 0), .bool (P 1), .bool (P 2), .bool (P 3), .bool (P 4), .bool (P 5), .bool (P 6), .bool (P 7), .bool (P 8), .bool (P 9)]
abbrev conI (g : Int) (P : Nat → Bool) (L : List Int) : V := .agg [.int .i64 g, .bool (P 0), .bool (P 1), .bool (P 2), .bool (P 3), .bool (P 4), .bool (P 5), .bool (P 6), .bool (P 7), .bool (P 8), .bool (P 9), intsV L]
abbrev conN (g : Nat) (P : Nat → Bool) (U : List Nat) : V := .agg [.int .i64 (g : Int), .bool (P 0), .bool (P 1), .bool (P 2), .bool (P 3), .bool (P 4), .bool (P 5), .bool (P 6), .bool (P 7), .bool (P 8), .bool (P 9), natsV U]
theorem natsV_int (U : List Nat) : natsV U = intsV (toI U) := by unfold natsV intsV toI; rw [List.map_map]; rfl
theorem conN_int (g : Nat) (P : Nat → Bool) (U : List Nat) : conN g P U = conI (g : Int) P (toI U) := by rw [conN, conI, natsV_int]
theorem ints_len {L : List Int} (h : (intsV L).Lim) : L.length ≤ 140737488355328 := by
  rw [intsV, V.Lim, List.length_map] at h
  exact h.1
theorem con_len {g : Int} {P : Nat → Bool} {L : List Int} (h : (conI g P L).Lim) : L.length ≤ 140737488355328 := by
  rw [conI, V.Lim] at h
  exact ints_len h.2.2.2.2.2.2.2.2.2.2.2.1
theorem at_map {α : Type} {f : α → V} {L : List α} {k : Nat} {x : α} (h : L[k]? = some x) : (L.map f)[k]? = some (f x) := by rw [List.getElem?_map, h]; rfl
theorem getD_at {L : List Int} {k : Nat} {x : Int} (h : L[k]? = some x) : L.getD k 0 = x := by rw [List.getD_eq_getElem?_getD, h]; rfl
set_option maxRecDepth 100000 in
set_option maxHeartbeats 4000000 in
theorem check_v {g : Int} {P : Nat → Bool} {L : List Int} : ACalls Tryd.prog 14 [conI g P L] (.int .i64 ((GrantP.check g L : Nat) : Int)) := ACalls.lim fun hl => by
  have hlen := con_len hl.1
  clear hl
  have hml : (L.map (V.int .i64)).length = L.length := List.length_map _
  unfold GrantP.check GrantP.codeG
  by_cases hg : g < 0 ∨ 68719476735 < g
  · rw [if_pos hg, if_neg (by decide)]
    refine fun1 tb_ok Tryd.func14 rfl Tryd.ntmps14 Tryd.results14 rfl fun N => ?_
    repeat' (first | refine zt ?_ | (refine isR ?_; first | refine zo ?_ | refine zA ?_ | refine zL ?_ | refine zc1 ?_ | refine zc2 ?_ | refine zc3 ?_ | refine zI ?_ | (refine zs1 ?_ ?_ <;> intro hc) | (refine zs2 ?_ ?_ <;> intro hc) | (refine zs3 ?_ ?_ <;> intro hc)) | refine awp_split rfl (fun hb => ?_) (fun hb => ?_) | refine zr ?_ | exact x_le)
    all_goals first | rfl | (exfalso; omega)
  · rw [if_neg hg, if_pos rfl]
    have hg1 : ¬ g < 0 := by omega
    have hg2 : ¬ 68719476735 < g := by omega
    refine fun1 tb_ok Tryd.func14 rfl Tryd.ntmps14 Tryd.results14 rfl fun N => ?_
    repeat' (first | refine zt ?_ | (refine isR ?_; first | refine zo ?_ | refine zA ?_ | refine zL ?_ | refine zc1 ?_ | refine zc2 ?_ | refine zc3 ?_ | refine zI ?_ | (refine zs1 ?_ ?_ <;> intro hc) | (refine zs2 ?_ ?_ <;> intro hc) | (refine zs3 ?_ ?_ <;> intro hc)) | refine awp_split rfl (fun hb => ?_) (fun hb => ?_) | refine zr ?_ | exact x_le)
    refine awp_for (fun k => ⟨[(1, .fp (V.cells (conI g P L)) 0), (14, intsV L), (15, .int .i64 ((L.map (V.int .i64)).length : Int)), (16, .int .i64 (k : Int))], [], 0, 42⟩) (fun k => k ≤ L.length ∧ scan (GrantP.codeV L) k = 0) L.length 0 (by exact x_le) ⟨Nat.zero_le _, rfl⟩ ?_
    rintro k ⟨hk, hs⟩
    by_cases hk2 : k < L.length
    · have hx : L[k]? = some L[k] := by simp [hk2]
      have hd := getD_at hx
      have hst := scan_stop (f := GrantP.codeV L) (k := k) (n := L.length) hs
      have hnx := scan_next (f := GrantP.codeV L) (k := k) hs
      generalize L[k] = x at *
      have hm := at_map (f := V.int .i64) hx
      by_cases h1 : x < 1 ∨ 40 < x
      · have hc : GrantP.codeV L k = 3 := by unfold GrantP.codeV; rw [hd, if_pos h1]
        rw [hst (by rw [hc]; decide) hk2, hc]
        repeat' (first | refine zt ?_ | (refine isR ?_; first | refine zo ?_ | refine zA ?_ | refine zL ?_ | refine zc1 ?_ | refine zc2 ?_ | refine zc3 ?_ | refine zI ?_ | (refine zs1 ?_ ?_ <;> intro hc) | (refine zs2 ?_ ?_ <;> intro hc) | (refine zs3 ?_ ?_ <;> intro hc)) | refine awp_split rfl (fun hb => ?_) (fun hb => ?_) | refine zr ?_ | exact x_le)
        all_goals first | rfl | (exfalso; omega)
      · have h2 : ¬ x < 1 := by omega
        have h3 : ¬ 40 < x := by omega
        rcases Nat.eq_zero_or_pos k with rfl | hk0
        · have hc : GrantP.codeV L 0 = 0 := by unfold GrantP.codeV; rw [hd, if_neg h1, if_neg (by omega)]
          have hn0 := hnx hc
          repeat' (first | refine zt ?_ | (refine isR ?_; first | refine zo ?_ | refine zA ?_ | refine zL ?_ | refine zc1 ?_ | refine zc2 ?_ | refine zc3 ?_ | refine zI ?_ | (refine zs1 ?_ ?_ <;> intro hc) | (refine zs2 ?_ ?_ <;> intro hc) | (refine zs3 ?_ ?_ <;> intro hc)) | refine awp_split rfl (fun hb => ?_) (fun hb => ?_) | refine zr ?_ | exact x_le)
          exact ⟨⟨by omega, hn0⟩, hk2, (by exact x_le)⟩
        · have hk1 : ((k : Int) - 1) = ((k - 1 : Nat) : Int) := by omega
          have hx' : L[k - 1]? = some (L[k - 1]'(by omega)) := by simp [show k - 1 < L.length by omega]
          have hd' := getD_at hx'
          generalize L[k - 1]'(by omega) = y at *
          have hm' := at_map (f := V.int .i64) hx'
          by_cases h4 : x ≤ y
          · have hc : GrantP.codeV L k = 4 := by unfold GrantP.codeV; rw [hd, hd', if_neg h1, if_pos ⟨hk0, h4⟩]
            rw [hst (by rw [hc]; decide) hk2, hc]
            repeat' (first | refine zt ?_ | (refine isR ?_; first | refine zo ?_ | refine zA ?_ | refine zL ?_ | refine zc1 ?_ | refine zc2 ?_ | refine zc3 ?_ | refine zI ?_ | (refine zs1 ?_ ?_ <;> intro hc) | (refine zs2 ?_ ?_ <;> intro hc) | (refine zs3 ?_ ?_ <;> intro hc)) | refine awp_split rfl (fun hb => ?_) (fun hb => ?_) | refine zr ?_ | exact x_le)
            all_goals first | rfl | (exfalso; omega)
          · have hc : GrantP.codeV L k = 0 := by unfold GrantP.codeV; rw [hd, hd', if_neg h1, if_neg (fun h => h4 h.2)]
            have hn0 := hnx hc
            repeat' (first | refine zt ?_ | (refine isR ?_; first | refine zo ?_ | refine zA ?_ | refine zL ?_ | refine zc1 ?_ | refine zc2 ?_ | refine zc3 ?_ | refine zI ?_ | (refine zs1 ?_ ?_ <;> intro hc) | (refine zs2 ?_ ?_ <;> intro hc) | (refine zs3 ?_ ?_ <;> intro hc)) | refine awp_split rfl (fun hb => ?_) (fun hb => ?_) | refine zr ?_ | exact x_le)
            exact ⟨⟨by omega, hn0⟩, hk2, (by exact x_le)⟩
    · obtain rfl : k = L.length := by omega
      rw [hs]
      repeat' (first | refine zt ?_ | (refine isR ?_; first | refine zo ?_ | refine zA ?_ | refine zL ?_ | refine zc1 ?_ | refine zc2 ?_ | refine zc3 ?_ | refine zI ?_ | (refine zs1 ?_ ?_ <;> intro hc) | (refine zs2 ?_ ?_ <;> intro hc) | (refine zs3 ?_ ?_ <;> intro hc)) | refine awp_split rfl (fun hb => ?_) (fun hb => ?_) | refine zr ?_ | exact x_le)
      all_goals first | rfl | (exfalso; omega)
set_option maxRecDepth 100000 in
set_option maxHeartbeats 4000000 in
theorem sameInts_v {L K : List Int} : ACalls Tryd.prog 20 [intsV L, intsV K] (.bool (decide (L = K))) := ACalls.lim fun hl => by
  have hlen := ints_len hl.1
  have hlen2 := ints_len hl.2.1
  clear hl
  have hml : (L.map (V.int .i64)).length = L.length := List.length_map _
  have hmk : (K.map (V.int .i64)).length = K.length := List.length_map _
  by_cases he : L.length = K.length
  · skip
    refine fun2 tb_ok Tryd.func20 rfl Tryd.ntmps20 Tryd.results20 rfl fun N => ?_
    repeat' (first | refine zt ?_ | (refine isR ?_; first | refine zo ?_ | refine zA ?_ | refine zL ?_ | refine zc1 ?_ | refine zc6 ?_ | refine zI ?_ | (refine zs1 ?_ ?_ <;> intro hc) | (refine zs6 ?_ ?_ <;> intro hc)) | refine awp_split rfl (fun hb => ?_) (fun hb => ?_) | refine zr ?_ | exact x_le)
    refine awp_for (fun k => ⟨[(0, intsV L), (1, intsV K), (5, .int .i64 (k : Int))], [], 0, 26⟩) (fun k => k ≤ L.length ∧ L.take k = K.take k) L.length 0 (by exact x_le) ⟨Nat.zero_le _, rfl⟩ ?_
    rintro k ⟨hk, hn⟩
    by_cases hk2 : k < L.length
    · have hx : L[k]? = some L[k] := by simp [hk2]
      have hy : K[k]? = some (K[k]'(by omega)) := by simp [show k < K.length by omega]
      generalize L[k] = x at *
      generalize K[k]'(by omega) = y at *
      have hm := at_map (f := V.int .i64) hx
      have hm' := at_map (f := V.int .i64) hy
      by_cases h : x = y
      · subst h
        repeat' (first | refine zt ?_ | (refine isR ?_; first | refine zo ?_ | refine zA ?_ | refine zL ?_ | refine zc1 ?_ | refine zc6 ?_ | refine zI ?_ | (refine zs1 ?_ ?_ <;> intro hc) | (refine zs6 ?_ ?_ <;> intro hc)) | refine awp_split rfl (fun hb => ?_) (fun hb => ?_) | refine zr ?_ | exact x_le)
        refine ⟨⟨by omega, ?_⟩, hk2, (by exact x_le)⟩
        rw [List.take_add_one, List.take_add_one, hn, hx, hy]
      · have hne : decide (L = K) = false := decide_eq_false fun e => by
          subst e
          rw [hx] at hy
          exact h (Option.some.inj hy)
        rw [hne]
        repeat' (first | refine zt ?_ | (refine isR ?_; first | refine zo ?_ | refine zA ?_ | refine zL ?_ | refine zc1 ?_ | refine zc6 ?_ | refine zI ?_ | (refine zs1 ?_ ?_ <;> intro hc) | (refine zs6 ?_ ?_ <;> intro hc)) | refine awp_split rfl (fun hb => ?_) (fun hb => ?_) | refine zr ?_ | exact x_le)
        rfl
    · have e : L = K := by
        rw [List.take_of_length_le (by omega), List.take_of_length_le (by omega)] at hn
        exact hn
      rw [decide_eq_true e]
      repeat' (first | refine zt ?_ | (refine isR ?_; first | refine zo ?_ | refine zA ?_ | refine zL ?_ | refine zc1 ?_ | refine zc6 ?_ | refine zI ?_ | (refine zs1 ?_ ?_ <;> intro hc) | (refine zs6 ?_ ?_ <;> intro hc)) | refine awp_split rfl (fun hb => ?_) (fun hb => ?_) | refine zr ?_ | exact x_le)
      rfl
  · have hne : decide (L = K) = false := decide_eq_false fun e => he (by rw [e])
    rw [hne]
    refine fun2 tb_ok Tryd.func20 rfl Tryd.ntmps20 Tryd.results20 rfl fun N => ?_
    repeat' (first | refine zt ?_ | (refine isR ?_; first | refine zo ?_ | refine zA ?_ | refine zL ?_ | refine zc1 ?_ | refine zc6 ?_ | refine zI ?_ | (refine zs1 ?_ ?_ <;> intro hc) | (refine zs6 ?_ ?_ <;> intro hc)) | refine awp_split rfl (fun hb => ?_) (fun hb => ?_) | refine zr ?_ | exact x_le)
    rfl
set_option maxRecDepth 100000 in
set_option maxHeartbeats 4000000 in
theorem same_t {g : Int} {P : Nat → Bool} {L : List Int} : ACalls Tryd.prog 10 [conI g P L, conI g P L] (.bool true) := by
  have c := sameInts_v (L := L) (K := L)
  rw [decide_eq_true rfl] at c
  have hp : eqI (purV P) (purV P) (List.range 10) = true := by
    show (decide (P 0 = P 0) && (decide (P 1 = P 1) && (decide (P 2 = P 2) && (decide (P 3 = P 3) && (decide (P 4 = P 4) && (decide (P 5 = P 5) && (decide (P 6 = P 6) && (decide (P 7 = P 7) && (decide (P 8 = P 8) && (decide (P 9 = P 9) && true)))))))))) = true
    simp
  refine fun2 tb_ok Tryd.func10 rfl Tryd.ntmps10 Tryd.results10 rfl fun N => ?_
  repeat' (first | refine zt ?_ | (refine isR ?_; first | refine zo ?_ | refine x_eqlR tb_ok ?_ | refine zk c ?_ | refine zc5 ?_ | (refine zs5 ?_ ?_ <;> intro hc)) | refine awp_split rfl (fun hb => ?_) (fun hb => ?_) | refine zr ?_ | exact x_le)
  all_goals first | rfl | (exfalso; omega)
/-- No consent: the nil one, and the empty one. -/
abbrev noC : V := .agg [.int .i64 0, .bool false, .bool false, .bool false, .bool false, .bool false, .bool false, .bool false, .bool false, .bool false, .bool false, .nils]
end Go.Proofs.YtnpokgjehapmjaaDoor.ConC
end

section
namespace Go.Proofs
open Go.Shelf
def Tryd.lays160_ren : Go.Shelf.Ren := ⟨fun | 160 => 44 | 232 => 49 | 231 => 48 | 227 => 50 | 234 => 52 | 233 => 51 | 236 => 54 | 235 => 53 | 228 => 56 | 271 => 59 | 151 => 58 | 197 => 57 | 120 => 62 | 152 => 61 | 260 => 60 | 137 => 43 | 119 => 63 | 224 => 64 | 225 => 65 | 217 => 47 | 266 => 55 | n => n, fun | 9 => 9 | 4 => 4 | 3 => 3 | 5 => 5 | 117 => 93 | 116 => 92 | 0 => 0 | 124 => 96 | 21 => 21 | 105 => 98 | 46 => 89 | 119 => 102 | 139 => 105 | 138 => 104 | n => n, fun | 3 => 1 | 4 => 2 | n => n⟩
theorem Tryd.lays160 : Go.Proofs.Lays.n160 Tryd.prog Tryd.lays160_ren := {
  mixed := by kernel_rfl
  f119 := Tryd.func63.trans (congrArg some (by kernel_rfl))
  f120 := Tryd.func62.trans (congrArg some (by kernel_rfl))
  f137 := Tryd.func43.trans (congrArg some (by kernel_rfl))
  f151 := Tryd.func58.trans (congrArg some (by kernel_rfl))
  f152 := Tryd.func61.trans (congrArg some (by kernel_rfl))
  f160 := Tryd.func44.trans (congrArg some (by kernel_rfl))
  f197 := Tryd.func57.trans (congrArg some (by kernel_rfl))
  f217 := Tryd.func47.trans (congrArg some (by kernel_rfl))
  f224 := Tryd.func64.trans (congrArg some (by kernel_rfl))
  f225 := Tryd.func65.trans (congrArg some (by kernel_rfl))
  f227 := Tryd.func50.trans (congrArg some (by kernel_rfl))
  f228 := Tryd.func56.trans (congrArg some (by kernel_rfl))
  f231 := Tryd.func48.trans (congrArg some (by kernel_rfl))
  f232 := Tryd.func49.trans (congrArg some (by kernel_rfl))
  f233 := Tryd.func51.trans (congrArg some (by kernel_rfl))
  f234 := Tryd.func52.trans (congrArg some (by kernel_rfl))
  f235 := Tryd.func53.trans (congrArg some (by kernel_rfl))
  f236 := Tryd.func54.trans (congrArg some (by kernel_rfl))
  f260 := Tryd.func60.trans (congrArg some (by kernel_rfl))
  f266 := Tryd.func55.trans (congrArg some (by kernel_rfl))
  f271 := Tryd.func59.trans (congrArg some (by kernel_rfl))
  t0 := Tryd.underlying0
  a0 := Tryd.isAgg0
  z0 := Tryd.sizeOf0
  v0 := Tryd.zeroValue0
  t3 := Tryd.underlying3
  a3 := Tryd.isAgg3
  z3 := Tryd.sizeOf3
  v3 := Tryd.zeroValue3
  t4 := Tryd.underlying4
  a4 := Tryd.isAgg4
  z4 := Tryd.sizeOf4
  v4 := Tryd.zeroValue4
  t5 := Tryd.underlying5
  a5 := Tryd.isAgg5
  z5 := Tryd.sizeOf5
  v5 := Tryd.zeroValue5
  t9 := Tryd.underlying9
  a9 := Tryd.isAgg9
  z9 := Tryd.sizeOf9
  v9 := Tryd.zeroValue9
  t21 := Tryd.underlying21
  a21 := Tryd.isAgg21
  z21 := Tryd.sizeOf21
  v21 := Tryd.zeroValue21
  t46 := Tryd.underlying89
  a46 := Tryd.isAgg89
  z46 := Tryd.sizeOf89
  v46 := Tryd.zeroValue89
  t105 := Tryd.underlying98
  a105 := Tryd.isAgg98
  z105 := Tryd.sizeOf98
  v105 := Tryd.zeroValue98
  t116 := Tryd.underlying92
  a116 := Tryd.isAgg92
  z116 := Tryd.sizeOf92
  t117 := Tryd.underlying93
  a117 := Tryd.isAgg93
  z117 := Tryd.sizeOf93
  v117 := Tryd.zeroValue93
  t119 := Tryd.underlying102
  a119 := Tryd.isAgg102
  z119 := Tryd.sizeOf102
  t124 := Tryd.underlying96
  a124 := Tryd.isAgg96
  z124 := Tryd.sizeOf96
  v124 := Tryd.zeroValue96
  t138 := Tryd.underlying104
  a138 := Tryd.isAgg104
  z138 := Tryd.sizeOf104
  v138 := Tryd.zeroValue104
  t139 := Tryd.underlying105
  a139 := Tryd.isAgg105
  z139 := Tryd.sizeOf105
  v139 := Tryd.zeroValue105
  g3 := by kernel_rfl
  g4 := by kernel_rfl }
open Go.RowKit in
theorem Tryd.strings_Trim_one (s : ByteArray) (c : UInt8) (hc : c.toNat < 128) (w : World) (hs : s.size ≤ 9223372036854775807) :
    Calls Tryd.prog 44 #[.string s, .string ⟨#[c]⟩] w fun e w' => e = .returned (.string ⟨(Lib.trimB s.data.toList c).toArray⟩) ∧ (w' = w ∨ w' = w.drew) := Any.strings_Trim_one Tryd.lays160 s c hc w hs
def Tryd.lays137_ren : Go.Shelf.Ren := ⟨fun | 137 => 43 | 217 => 47 | 266 => 55 | n => n, fun | 9 => 9 | 5 => 5 | 3 => 3 | n => n, fun | n => n⟩
theorem Tryd.lays137 : Go.Proofs.Lays.n137 Tryd.prog Tryd.lays137_ren := {
  mixed := by kernel_rfl
  f137 := Tryd.func43.trans (congrArg some (by kernel_rfl))
  f217 := Tryd.func47.trans (congrArg some (by kernel_rfl))
  f266 := Tryd.func55.trans (congrArg some (by kernel_rfl))
  t3 := Tryd.underlying3
  a3 := Tryd.isAgg3
  z3 := Tryd.sizeOf3
  v3 := Tryd.zeroValue3
  t5 := Tryd.underlying5
  a5 := Tryd.isAgg5
  z5 := Tryd.sizeOf5
  v5 := Tryd.zeroValue5
  t9 := Tryd.underlying9
  a9 := Tryd.isAgg9
  z9 := Tryd.sizeOf9
  v9 := Tryd.zeroValue9 }
open Go.RowKit in
theorem Tryd.strings_IndexByte (s : ByteArray) (c : Int) (w : World) :
    Calls Tryd.prog 43 #[.string s, .int .u8 c] w fun e w' => e = .returned (.int .i64 (Lib.indexByte s.data.toList c.toNat.toUInt8)) ∧ w' = w := Any.strings_IndexByte Tryd.lays137 s c w
def Tryd.lays107_ren : Go.Shelf.Ren := ⟨fun | 107 => 33 | 108 => 42 | n => n, fun | 28 => 23 | 3 => 3 | 4 => 4 | 0 => 0 | n => n, fun | n => n⟩
def Tryd.laysNm215_ren : Go.Shelf.Ren := ⟨fun | 15 => 16 | n => n, fun | 22 => 23 | 3 => 3 | 4 => 4 | n => n, fun | n => n⟩
end Go.Proofs
end

section
namespace Go.Proofs.YtnpokgjehapmjaaDoor.SixtyR
open Go.RowKit Mem BitsP BitsS BitsT SixtyP WordW SixtyW SixtyQ

def RPost (r : List UInt8 × Nat) (w : World) (e : Ending) (w' : World) : Prop := e = .returned (.tuple #[.string (str r.1), .int .i64 (r.2 : Int)]) ∧ Below w.heap.size w w'
theorem lindex_any (c : UInt8) (w : World) :
    Calls Tryd.prog 43 #[.string ⟨#[65, 66, 67, 68, 69, 70, 71, 72, 73, 74, 75, 76, 77, 78, 79, 80, 81, 82, 83, 84, 85, 86, 87, 88, 89, 90, 97, 98, 99, 100, 101, 102, 103, 104, 105, 106, 107, 108, 109, 110, 111, 112, 113, 114, 115, 116, 117, 118, 119, 120, 121, 122, 48, 49, 50, 51, 52, 53, 54, 55, 56, 57, 45, 95]⟩, .int .u8 c.toNat] w (fun e w' => e = .returned (.int .i64 (if place c < 64 then (place c : Int) else -1)) ∧ w = w') := by
  have h := Tryd.strings_IndexByte ⟨#[65, 66, 67, 68, 69, 70, 71, 72, 73, 74, 75, 76, 77, 78, 79, 80, 81, 82, 83, 84, 85, 86, 87, 88, 89, 90, 97, 98, 99, 100, 101, 102, 103, 104, 105, 106, 107, 108, 109, 110, 111, 112, 113, 114, 115, 116, 117, 118, 119, 120, 121, 122, 48, 49, 50, 51, 52, 53, 54, 55, 56, 57, 45, 95]⟩ c.toNat w
  have e : ((c.toNat : Int)).toNat.toUInt8 = c := by simp
  rw [e] at h
  have hi := index_place c
  exact h.mono fun _ _ h => ⟨by rw [← hi]; exact h.1, h.2.symm⟩
theorem sink_fresh (w : World) (R : Array Value) (f : Nat × Nat) : SinkAt (((w.alloc (.cells #[.slice none 0 0, .int .i64 0] 57)).alloc (.cells R 5 f)).drew) w.heap.size (fun k => k ≠ w.heap.size ∧ k < w.heap.size + 2) [] :=
  ⟨fun k hk => ⟨by simp; omega, hk.1⟩, .slice none 0 0, (Below.heap_alloc _ _ _ (by simp)).trans (heap_alloc_new w _), (fun k h => by cases h), World.ownsRow_nil _ _ _ _⟩
theorem take_snocB (s : ByteArray) (k : Nat) (h : k < s.size) : s.data.toList.take (k + 1) = s.data.toList.take k ++ [s[k]] := by
  rw [List.take_succ_eq_append_getElem (by simpa using h)]; rfl
theorem known_bad (s : ByteArray) (k : Nat) (h : k < s.size) (hp : ¬ place s[k] < 64) : known s.data.toList = false := by
  have e : s.data.toList = s.data.toList.take (k + 1) ++ s.data.toList.drop (k + 1) := (List.take_append_drop _ _).symm
  rw [e, take_snocB s k h, known_app, known_app]; simp [known, hp]
theorem btx_sizeL (l : List Nat) : (btx l).size = (l.length + 7) / 8 := by simp [btx, ByteArray.size, packB_len]
theorem ctrim_any (s : ByteArray) (w : World) (hs : s.size ≤ 9223372036854775807) :
    Calls Tryd.prog 44 #[.string s, .string ⟨#[0]⟩] w (Gives (.string (str (Lib.trimB s.data.toList 0))) w) :=
  (Tryd.strings_Trim_one s 0 (by decide) w hs).mono fun e w' h => ⟨h.1, by
    rcases h.2 with h | h
    · rw [h]; exact Below.refl _ _
    · rw [h]; exact ⟨rfl, rfl, rfl, Nat.le_refl _, fun _ _ => rfl⟩⟩
set_option maxRecDepth 100000 in
set_option maxHeartbeats 4000000 in
theorem sread_any (t : ByteArray) (w : World) (hs : t.size ≤ 140737488355328) :
    Calls Tryd.prog 36 #[.string t] w (RPost (readF t.data.toList) w) := by
  have kc := fun (w : World) (s : ByteArray) => run_bytes_of_string (P := Tryd.prog) w 9 55 5 s Tryd.underlying9 Tryd.underlying55 Tryd.underlying5
  have htl : t.data.toList.length = t.size := by simp
  go_enter Tryd.func36, Tryd.ntmps36
  go_wp2_with fail
  generalize grownCap (w.alloc (.cells #[.slice none 0 0, .int .i64 0] 57)) t.size 0 5 = C
  have hR : ∀ k (hk : k < t.size), (bytesRow t C)[k]? = some (.int .u8 (t[k].toNat : Int)) := fun k hk => bytesRow_at t C k hk
  have hK0 : Kept (fun k => k < w.heap.size) w (((w.alloc (.cells #[.slice none 0 0, .int .i64 0] 57)).alloc (.cells (bytesRow t C) 5 ((bytesRow t C).size, (bytesRow t C).size + 1))).drew) := (((Kept.refl _ _).alloc _).alloc _).drew
  have hS0 := sink_fresh w (bytesRow t C) ((bytesRow t C).size, (bytesRow t C).size + 1)
  have hC0 : ∀ k (hk : k < t.size), (((w.alloc (.cells #[.slice none 0 0, .int .i64 0] 57)).alloc (.cells (bytesRow t C) 5 ((bytesRow t C).size, (bytesRow t C).size + 1))).drew).cell? ⟨w.heap.size + 1, k, none⟩ = some (.int .u8 (t[k].toNat : Int)) := fun k hk => by
    have h1 : (((w.alloc (.cells #[.slice none 0 0, .int .i64 0] 57)).alloc (.cells (bytesRow t C) 5 ((bytesRow t C).size, (bytesRow t C).size + 1))).drew).heap[w.heap.size + 1]? = some (.cells (bytesRow t C) 5 ((bytesRow t C).size, (bytesRow t C).size + 1)) := by
      have h2 : ((w.alloc (.cells #[.slice none 0 0, .int .i64 0] 57)).alloc (.cells (bytesRow t C) 5 ((bytesRow t C).size, (bytesRow t C).size + 1))).heap[w.heap.size + 1]? = some (.cells (bytesRow t C) 5 ((bytesRow t C).size, (bytesRow t C).size + 1)) := by
        simpa using heap_alloc_new (w.alloc (.cells #[.slice none 0 0, .int .i64 0] 57)) (.cells (bytesRow t C) 5 ((bytesRow t C).size, (bytesRow t C).size + 1))
      exact h2
    simp only [World.cell?, h1]
    exact hR k hk
  have hz0 : w.heap.size + 2 ≤ (((w.alloc (.cells #[.slice none 0 0, .int .i64 0] 57)).alloc (.cells (bytesRow t C) 5 ((bytesRow t C).size, (bytesRow t C).size + 1))).drew).heap.size := by simp
  clear hR
  generalize (((w.alloc (.cells #[.slice none 0 0, .int .i64 0] 57)).alloc (.cells (bytesRow t C) 5 ((bytesRow t C).size, (bytesRow t C).size + 1))).drew) = W0 at hK0 hS0 hC0 hz0 ⊢
  have HC := Lib.hid hC0
  have HTL := Lib.hid htl
  clear hC0 htl kc
  go_loopw [14] (fun i wr => ∃ k : Nat, k ≤ t.size ∧ i = .int .i64 k ∧ known (t.data.toList.take k) = true ∧ SinkAt wr w.heap.size (fun k => k ≠ w.heap.size ∧ k < w.heap.size + 2) (dbits (t.data.toList.take k)) ∧ Kept (fun k => k ≠ w.heap.size ∧ k < w.heap.size + 2) W0 wr) (fun i _ => t.size - (intOf i).toNat)
  case atStart => exact ⟨0, Nat.zero_le _, rfl, rfl, hS0, Kept.refl _ _⟩
  case round =>
    clear hS0
    obtain ⟨k, hk, rfl, hkn, hsink, hkept⟩ := hrel
    have HKN := Lib.hid hkn
    have HS := Lib.hid hsink
    have hsz := hkept.size
    have hbl : Below w.heap.size w wr := (hK0.below (Nat.le_refl _) (fun j hj => hj)).trans (hkept.below (by omega) (fun j hj => by omega))
    clear hkn hsink
    by_cases hlt : k < t.size
    · have hcell := (hkept.cell (q := ⟨w.heap.size + 1, k, none⟩) (by simp; omega) (by simp)).trans (HC.out k hlt)
      have htk := take_snocB t k hlt
      have hbad := known_bad t k hlt
      have hbin := dbits_bin (t.data.toList.take k)
      have hdl := dbits_len (t.data.toList.take k)
      have htl : (t.data.toList.take k).length ≤ k := List.length_take_le _ _
      generalize t[k] = c at hcell htk hbad
      have CI := Lib.hid (fun w' => lindex_any c w')
      by_cases hp : place c < 64
      · have CI := CI.out
        simp only [if_pos hp] at CI
        have CI := Lib.hid CI
        have hkn1 : known (t.data.toList.take (k + 1)) = true := by rw [htk, known_app, HKN.out]; simp [known, hp]
        have hdb1 : dbits (t.data.toList.take (k + 1)) = dbits (t.data.toList.take k) ++ bitsOf (place c) 6 := by rw [htk, dbits_app]; simp [dbits]
        have HB1 := Lib.hid hdb1
        have HKN1 := Lib.hid hkn1
        clear htk hbad hkn1 hdb1
        generalize place c = x at hp CI HB1
        have hwx : IntKind.u64.wrap (x : Int) = (x : Int) := IntWalk.u64_in _ (by omega)
        go_wp2_with fail
        refine (CI.out _).mono ?_
        rintro e w1 ⟨rfl, rfl⟩
        go_wp2_with fail
        have CP := put_any w.heap.size (fun k => k ≠ w.heap.size ∧ k < w.heap.size + 2) (dbits (t.data.toList.take k)) x 6 (by omega) (by omega) wr hbin (by omega) HS.out
        rw [show (((6 : Nat)) : Int) = 6 from rfl] at CP
        with_reducible refine CP.mono ?_
        clear CP
        rintro e w2 ⟨rfl, hs2, hk2⟩
        go_wp2_with fail
        go_roundw
        case rel => exact ⟨k + 1, by omega, by go_num, HKN1.out, by rw [HB1.out]; exact hs2, hkept.trans hk2⟩
        case measure => simp [intOf]; omega
      · have CI := CI.out
        simp only [if_neg hp] at CI
        have CI := Lib.hid CI
        have hr := read_bad (hbad hp)
        rw [hr]
        clear htk hbad hr
        go_wp2_with fail
        refine (CI.out _).mono ?_
        rintro e w1 ⟨rfl, rfl⟩
        go_wp2_with fail
        go_ret2
        exact ⟨rfl, hbl⟩
    · obtain rfl : k = t.size := by omega
      have hall : t.data.toList.take t.size = t.data.toList := List.take_of_length_le (by rw [HTL.out]; omega)
      have hkn := HKN.out
      have hsk := HS.out
      rw [hall] at hkn hsk
      have hbin := dbits_bin t.data.toList
      have hdl := dbits_len t.data.toList
      rw [HTL.out] at hdl
      have hbs : (btx (dbits t.data.toList)).size = (6 * t.size + 7) / 8 := by rw [btx_sizeL, hdl]
      have htake : (btx (dbits t.data.toList)).extract 0 (t.size * 6 / 8) = str (((packB (dbits t.data.toList)).map UInt8.ofNat).take (t.size * 6 / 8)) := by rw [Lib.extract_upto]; simp [btx, str]
      have htr := trim_tail (dbits t.data.toList) hbin
      rw [hdl, show 6 * t.size / 8 = t.size * 6 / 8 from by omega] at htr
      have CT := fun w' => ctrim_any ((btx (dbits t.data.toList)).extract (t.size * 6 / 8) (btx (dbits t.data.toList)).size) w' (by simp; omega)
      have hext : ((btx (dbits t.data.toList)).extract (t.size * 6 / 8) (btx (dbits t.data.toList)).size).data.toList = ((packB (dbits t.data.toList)).map UInt8.ofNat).drop (t.size * 6 / 8) := by rw [Lib.extract_from]; simp [btx]
      rw [hext] at CT
      have CX := fun w' h => text_any (T := 57) w.heap.size (fun k => k ≠ w.heap.size ∧ k < w.heap.size + 2) (dbits t.data.toList) w' hbin h
      have r1 := read_one hkn
      have r2 := read_many hkn
      have r3 := read_rest hkn
      have r4 := read_ok hkn
      rw [HTL.out] at r1 r2 r3 r4
      clear hext hall hkn
      have hm1 : IntKind.i64.wrap ((t.size : Int) * 6) = (t.size : Int) * 6 := IntWalk.i64_in _ (by omega)
      have hm2 : IntKind.i64.wrap ((t.size : Int) * 6 / 8) = ((t.size * 6 / 8 : Nat) : Int) := by rw [IntWalk.i64_in _ (by omega)]; omega
      have hm7 : (t.size : Int) * 6 / 8 = ((t.size * 6 / 8 : Nat) : Int) := by omega
      have hm3 : t.size * 6 / 8 ≤ (btx (dbits t.data.toList)).size := by rw [hbs]; omega
      have hm4 : (t.size : Int).tmod 4 = ((t.size % 4 : Nat) : Int) := by rw [Int.tmod_eq_emod_of_nonneg (by omega)]; omega
      clear hbs
      generalize btx (dbits t.data.toList) = b at htake CT CX hm3
      generalize Lib.trimB (((packB (dbits t.data.toList)).map UInt8.ofNat).drop (t.size * 6 / 8)) 0 = tr at CT htr
      generalize num ((dbits t.data.toList).drop (8 * (t.size * 6 / 8))) = nr at htr r3 r4
      generalize ((packB (dbits t.data.toList)).map UInt8.ofNat).take (t.size * 6 / 8) = tk at htake r4
      generalize t.size * 6 / 8 = m at hm2 hm7 hm3 htake CT r2 r3 r4
      have CX := Lib.hid CX
      have CT := Lib.hid CT
      have HTK := Lib.hid htake
      clear htake
      have hm5 : (m : Int) ≤ (b.size : Int) := by omega
      by_cases h1 : t.size % 4 = 1
      · have HR := Lib.hid (r1 h1)
        rw [h1] at hm4
        clear r1 r2 r3 r4 htr h1
        go_wp2_with fail
        refine (CX.out _ hsk).mono ?_
        rintro e w1 ⟨rfl, rfl⟩
        go_wp2_with fail
        go_ret2
        exact ⟨by rw [HR.out]; rfl, hbl⟩
      · have hm6 : (((t.size % 4 : Nat) : Int) == 1) = false := by rw [beq_eq_false_iff_ne]; omega
        generalize ((t.size % 4 : Nat) : Int) = q at hm4 hm6
        by_cases h2 : 400 < m
        · have HR := Lib.hid (r2 h1 h2)
          have hi2 : (m : Int) > 400 := by omega
          clear r1 r2 r3 r4 htr h1 h2
          go_wp2_with fail
          refine (CX.out _ hsk).mono ?_
          rintro e w1 ⟨rfl, rfl⟩
          go_wp2_with fail
          go_ret2
          exact ⟨by rw [HR.out]; rfl, hbl⟩
        · have hi2 : ¬ (m : Int) > 400 := by omega
          by_cases h3 : nr = 0
          · have HR := Lib.hid (r4 h1 h2 h3)
            obtain rfl : tr = [] := htr.2 h3
            have hu : (str []).toList.isEmpty = true := by rw [ByteArray.toList_eq]; rfl
            clear r1 r2 r3 r4 htr h1 h2 h3
            go_wp2_with fail
            refine (CX.out _ hsk).mono ?_
            rintro e w1 ⟨rfl, rfl⟩
            go_wp2_with fail
            refine (CT.out _).mono ?_
            rintro e w2 ⟨rfl, b2⟩
            have hb2 := hbl.trans (b2.mono (by have := hbl.size; omega))
            go_wp2_with fail
            go_ret2
            exact ⟨by rw [HR.out, HTK.out]; rfl, hb2⟩
          · have HR := Lib.hid (r3 h1 h2 h3)
            have hu : (str tr).toList.isEmpty = false := by
              rw [ByteArray.toList_eq, List.isEmpty_eq_false_iff]
              intro e; exact h3 (htr.1 (by simpa [str] using e))
            clear r1 r2 r3 r4 htr h1 h2 h3
            go_wp2_with fail
            refine (CX.out _ hsk).mono ?_
            rintro e w1 ⟨rfl, rfl⟩
            go_wp2_with fail
            refine (CT.out _).mono ?_
            rintro e w2 ⟨rfl, b2⟩
            have hb2 := hbl.trans (b2.mono (by have := hbl.size; omega))
            go_wp2_with fail
            go_ret2
            exact ⟨by rw [HR.out]; rfl, hb2⟩
end Go.Proofs.YtnpokgjehapmjaaDoor.SixtyR
end

section
namespace Go.Proofs.YtnpokgjehapmjaaDoor.SixtyL
open Go.RowKit Mem BitsP BitsS BitsT SixtyP WordW SixtyW SixtyQ SixtyR

/-- A call that gives a text and a code. -/
def Two (a : ByteArray) (n : Int) (w : World) (e : Ending) (w' : World) : Prop := e = .returned (.tuple #[.string a, .int .i64 n]) ∧ Below w.heap.size w w'
theorem read_code (t : List UInt8) : (∃ a, readF t = (a, 0)) ∨ readF t = ([], 1) ∨ readF t = ([], 2) := by
  unfold readF
  repeat' split
  all_goals first | exact .inr (.inl rfl) | exact .inr (.inr rfl) | exact .inl ⟨_, rfl⟩
end Go.Proofs.YtnpokgjehapmjaaDoor.SixtyL
end

section
namespace Go.Proofs.YtnpokgjehapmjaaDoor.BitsN
open Go.RowKit Mem BitsP BitsS BitsT OneB

def ints (l : List Nat) : List Value := l.map fun n : Nat => Value.int .i64 (n : Int)
/-- A slice of ints reads as these numbers. -/
abbrev IRow (w : World) (B : Nat) (A : Option Addr) (l : List Nat) : Prop := Row w B A (ints l)
/-- The first k bits of a byte, and noughts. -/
def part (l : List Nat) (a : Nat) : Nat → Nat
  | 0 => 0
  | k + 1 => part l a k * 2 + l.getD (a + k) 0
def bytesOf (l : List Nat) (j : Nat) : ByteArray := ⟨((List.range j).map fun i => UInt8.ofNat (byteAt l i)).toArray⟩
end Go.Proofs.YtnpokgjehapmjaaDoor.BitsN
end

section
namespace Go.Proofs.YtnpokgjehapmjaaDoor.SixtyV
open Go.RowKit Mem BitsP BitsS BitsT SixtyP WordW SixtyW SixtyQ SixtyR SixtyL OneB BitsN

/-! The groups of three. -/
def nk (d : List UInt8) : Nat → Nat
  | 0 => 0
  | k + 1 => nk d k * 256 + (d.getD k 0).toNat
def four (n : Nat) : List UInt8 := [letter (n / 262144), letter (n / 4096 % 64), letter (n / 64 % 64), letter (n % 64)]
end Go.Proofs.YtnpokgjehapmjaaDoor.SixtyV
end

section
namespace Go.Proofs.YtnpokgjehapmjaaDoor.SixtyX
open Go.RowKit Mem BitsP BitsS BitsT SixtyP WordW SixtyW SixtyQ SixtyR SixtyL OneB BitsN SixtyV

end Go.Proofs.YtnpokgjehapmjaaDoor.SixtyX
end

section
namespace Go.Proofs.YtnpokgjehapmjaaDoor.BitsM
open Go.RowKit Mem BitsP BitsS BitsT OneB BitsN

theorem take_snocB (s : ByteArray) (k : Nat) (h : k < s.size) : s.data.toList.take (k + 1) = s.data.toList.take k ++ [s[k]] := by
  rw [List.take_succ_eq_append_getElem (by simpa using h)]; rfl
end Go.Proofs.YtnpokgjehapmjaaDoor.BitsM
end

section
namespace Go.Proofs.YtnpokgjehapmjaaDoor.ConA
open Go.RowKit Mem Abs BitsP BitsS BitsT SixtyP SixtyW SixtyQ SixtyR SixtyL OneB BitsN SixtyV SixtyX BitsM ConC

theorem fz_two {N : Nat → Prop} {w : World} {a b : V} {x y : Value} (ha : Fz N w a x) (hb : Fz N w b y) : Fz N w (.tup [a, b]) (.tuple #[x, y]) := .tup rfl fun i x c hx hc => by
  have hi : i < 2 := (List.getElem?_eq_some_iff.1 hx).1
  have : i = 0 ∨ i = 1 := by omega
  rcases this with rfl | rfl <;> (cases hx; cases hc)
  · exact ha
  · exact hb
theorem enc_small {l : List UInt8} : (str (writeF l).1).size ≤ SLIM := by
  rw [str_size]
  unfold writeF
  split
  · exact Nat.zero_le _
  · rw [enc6_len _ _ (Nat.le_refl _), tbits_len]
    unfold SLIM; omega
theorem dec_small {l : List UInt8} : (str (readF l).1).size ≤ SLIM := by
  rw [str_size]
  by_cases h : (readF l).2 = 0
  · have := (write_read l h).1
    unfold SLIM; omega
  · rw [read_none l h]; exact Nat.zero_le _
theorem code_in {n : Nat} (h : n ≤ 2) : InR .i64 (n : Int) := ⟨by show (-9223372036854775808 : Int) ≤ _; omega, by show _ ≤ (9223372036854775807 : Int); omega⟩
theorem wcode {l : List UInt8} : (writeF l).2 ≤ 2 := by unfold writeF; split <;> simp
theorem rcode {l : List UInt8} : (readF l).2 ≤ 2 := by
  rcases read_code l with ⟨a, h⟩ | h | h <;> rw [h] <;> simp
abbrev sixT (r : List UInt8 × Nat) : V := .tup [strT r.1, .int .i64 (r.2 : Int)]
theorem sixW_v {l : List UInt8} (hl : l.length ≤ 281474976710656) : ACalls Tryd.prog 31 [strT l] (sixT (writeF l)) := fun g N w vs hG hN hlen hv => by
  obtain ⟨vs⟩ := vs
  match vs, hlen with
  | [x0], _ =>
    obtain ⟨rfl, _⟩ := fz_str (hv 0 _ x0 rfl rfl)
    refine (swrite_any (str l) w (by rw [str_size]; exact hl)).mono fun e w' ⟨h1, h2⟩ => ⟨_, h1, h2, ?_⟩
    rw [str_toList]
    exact fz_two (.str enc_small) (.int (code_in wcode))
theorem sixR_v {l : List UInt8} (hl : l.length ≤ 140737488355328) : ACalls Tryd.prog 36 [strT l] (sixT (readF l)) := fun g N w vs hG hN hlen hv => by
  obtain ⟨vs⟩ := vs
  match vs, hlen with
  | [x0], _ =>
    obtain ⟨rfl, _⟩ := fz_str (hv 0 _ x0 rfl rfl)
    refine (sread_any (str l) w (by rw [str_size]; exact hl)).mono fun e w' ⟨h1, h2⟩ => ⟨_, h1, h2, ?_⟩
    rw [str_toList]
    exact fz_two (.str dec_small) (.int (code_in rcode))
end Go.Proofs.YtnpokgjehapmjaaDoor.ConA
end
