/- Texts of the proof, joined: JarP, JarQ, AbsZ, JarA, Rdy, GrantP, PolP, Inv, BitsP, SixtyP, SixtyQ. -/
import Derived.Test.YtepnalbefjicgaaGreatDoorG8
import Derived.Test.YtepnalbefjicgaaGreatDoorG12
import Derived.Laws.Cover4
import Derived.Laws.BytesArg
import Derived.ChangeKeysEq
import Derived.Test.YtepnalbefjicgaaGreatDoorG10
import Derived.Test.YtepnalbefjicgaaGreatDoorG11
import Derived.Test.YtepnalbefjicgaaGreatDoorG1
import Derived.Lib.IndexBytes
import Derived.Lib.TrimByte
section
namespace Go.Proofs.YtepnalbefjicgaaGreatDoor.JarP
open Abs Scan

/-- A moment? -/
def isJ (n : Int) : Bool := decide (-11644473600 ≤ n) && decide (n ≤ 253402300799)
/-- The same cookie? -/
def sameK (a b : Cookie) : Bool := decide (a.name = b.name) && (decide (a.domain = b.domain) && decide (a.path = b.path))
def badM (c : Cookie) : Bool := !(isJ c.created && isJ c.used)
/-- The fault of the cookie at i. -/
def codeJ (L : List Cookie) (nx : Int) (i : Nat) : Nat := match L[i]? with
  | none => 0
  | some c => if badM c = true then 3 else if c.no < 0 ∨ nx ≤ c.no then 4
    else if (L.take i).any (fun d => sameK d c || decide (d.no = c.no)) = true then 6
    else if (L.take i).countP (fun d => decide (d.domain = c.domain)) = 4 then 2 else 0
def checkJ (L : List Cookie) (nx : Int) : Nat := if 12 < L.length then 2 else if scan (codeJ L nx) L.length ≠ 0 then scan (codeJ L nx) L.length else if nx < 0 ∨ 1099511627776 < nx then 3 else 0
theorem few {L : List Cookie} {nx : Int} : ∀ {k : Nat}, k ≤ L.length → scan (codeJ L nx) k = 0 → ∀ d : List UInt8, (L.take k).countP (fun c => decide (c.domain = d)) ≤ 4
  | 0, _, _, d => by simp
  | k + 1, hk, h, d => by
    have hz := scan_zero.1 h
    have ih := few (L := L) (nx := nx) (k := k) (by omega) (scan_zero.2 fun i hi => hz i (by omega)) d
    have hc : L[k]? = some L[k] := by simp
    have h2 := hz k (by omega)
    rw [List.take_add_one, hc, List.countP_append]
    generalize L[k] = c at *
    by_cases hd : c.domain = d
    · subst hd
      have h4 : (L.take k).countP (fun x => decide (x.domain = c.domain)) ≠ 4 := fun h4 => by
        unfold codeJ at h2
        rw [hc] at h2
        dsimp only at h2
        rw [if_pos h4] at h2
        split at h2
        · cases h2
        · split at h2
          · cases h2
          · split at h2 <;> cases h2
      simp
      omega
    · simp [hd]
      exact ih
def liveF (now : Int) (L : List Cookie) : List Cookie := L.filter fun c => decide (now < c.expiry)
/-- A cookie laid into a jar; the next number. -/
def layF (L : List Cookie) (nx : Int) (c : Cookie) : List Cookie × Int := match L.findIdx? (fun x => sameK x c) with
  | some i => (L.set i { c with created := (L.getD i c).created, no := (L.getD i c).no }, nx)
  | none => (L ++ [{ c with no := nx }], nx + 1)
/-- Used less. -/
def lessU (a b : Cookie) : Bool := decide (a.used < b.used) || (decide (a.used = b.used) && decide (a.no < b.no))
/-- The place of the least used among those of the first k that p lets. -/
def minAt (p : Cookie → Bool) (L : List Cookie) : Nat → Option Nat
  | 0 => none
  | k + 1 => match L[k]? with
    | none => minAt p L k
    | some c => if p c = true then (match minAt p L k with
      | none => some k
      | some a => if lessU c (L.getD a c) = true then some k else some a) else minAt p L k
/-- While more than so many are let: the least used goes. -/
def evF (most : Nat) (p : Cookie → Bool) : Nat → List Cookie → List Cookie
  | 0, L => L
  | n + 1, L => if L.countP p ≤ most then L else match minAt p L L.length with
    | none => L
    | some i => evF most p n (L.eraseIdx i)
def putF (L : List Cookie) (nx : Int) (c : Cookie) (now : Int) : List Cookie × Int :=
  let r := layF (liveF now L) nx c
  let M := liveF now r.1
  let M1 := evF 4 (fun x => decide (x.domain = c.domain)) (M.length + 1) M
  (evF 12 (fun _ => true) (M1.length + 1) M1, r.2)
def codePut (L : List Cookie) (nx : Int) (c : Cookie) (now : Int) : Nat :=
  if checkJ L nx ≠ 0 then checkJ L nx else if isJ now = false ∨ badM c = true then 3 else if nx = 1099511627776 then 2 else 0
end Go.Proofs.YtepnalbefjicgaaGreatDoor.JarP
end

section
namespace Go.Proofs.YtepnalbefjicgaaGreatDoor.JarQ
open Abs Scan JarP

structure Rj (L : List Cookie) (nx : Int) : Prop where
  len : L.length ≤ 12
  mom : ∀ c ∈ L, badM c = false
  no : ∀ c ∈ L, 0 ≤ c.no ∧ c.no < nx
  dis : L.Pairwise fun a b => sameK a b = false ∧ a.no ≠ b.no
  per : ∀ d : List UInt8, L.countP (fun c => decide (c.domain = d)) ≤ 4
  nx : 0 ≤ nx ∧ nx ≤ 1099511627776
theorem code_zero {L : List Cookie} {nx : Int} {i : Nat} {c : Cookie} (hc : L[i]? = some c) : codeJ L nx i = 0 ↔ badM c = false ∧ (0 ≤ c.no ∧ c.no < nx) ∧ (∀ d ∈ L.take i, sameK d c = false ∧ d.no ≠ c.no) ∧ (L.take i).countP (fun d => decide (d.domain = c.domain)) ≠ 4 := by
  unfold codeJ
  rw [hc]
  dsimp only
  by_cases h1 : badM c = true
  · rw [if_pos h1]
    constructor
    · intro h; cases h
    · rintro ⟨h, _⟩; rw [h] at h1; cases h1
  · rw [if_neg h1]
    have h1 : badM c = false := by simpa using h1
    by_cases h2 : c.no < 0 ∨ nx ≤ c.no
    · rw [if_pos h2]
      constructor
      · intro h; cases h
      · rintro ⟨_, h, _⟩; omega
    · rw [if_neg h2]
      by_cases h3 : (L.take i).any (fun d => sameK d c || decide (d.no = c.no)) = true
      · rw [if_pos h3]
        constructor
        · intro h; cases h
        · rintro ⟨_, _, h, _⟩
          obtain ⟨d, hd, hq⟩ := List.any_eq_true.1 h3
          obtain ⟨k1, k2⟩ := h d hd
          rw [k1, decide_eq_false k2] at hq
          cases hq
      · rw [if_neg h3]
        have h3' : ∀ d ∈ L.take i, sameK d c = false ∧ d.no ≠ c.no := fun d hd => by
          have : (sameK d c || decide (d.no = c.no)) = false := by
            cases hb : (sameK d c || decide (d.no = c.no)) with
            | false => rfl
            | true => exact absurd (List.any_eq_true.2 ⟨d, hd, hb⟩) h3
          rw [Bool.or_eq_false_iff] at this
          exact ⟨this.1, of_decide_eq_false this.2⟩
        by_cases h4 : (L.take i).countP (fun d => decide (d.domain = c.domain)) = 4
        · rw [if_pos h4]
          constructor
          · intro h; cases h
          · rintro ⟨_, _, _, h⟩; exact absurd h4 h
        · rw [if_neg h4]
          exact ⟨fun _ => ⟨h1, by omega, h3', h4⟩, fun _ => rfl⟩
theorem check_zero {L : List Cookie} {nx : Int} : checkJ L nx = 0 ↔ Rj L nx := by
  unfold checkJ
  by_cases hl : 12 < L.length
  · rw [if_pos hl]
    constructor
    · intro h; cases h
    · intro h; have := h.len; omega
  rw [if_neg hl]
  by_cases hs : scan (codeJ L nx) L.length = 0
  · rw [if_neg (by rw [hs]; simp)]
    by_cases hn : nx < 0 ∨ 1099511627776 < nx
    · rw [if_pos hn]
      constructor
      · intro h; cases h
      · intro h; have := h.nx; omega
    · rw [if_neg hn]
      refine ⟨fun _ => ?_, fun _ => rfl⟩
      have hz := scan_zero.1 hs
      have at' : ∀ i (hi : i < L.length), badM L[i] = false ∧ (0 ≤ L[i].no ∧ L[i].no < nx) ∧ (∀ d ∈ L.take i, sameK d L[i] = false ∧ d.no ≠ L[i].no) ∧ (L.take i).countP (fun d => decide (d.domain = L[i].domain)) ≠ 4 := fun i hi => (code_zero (by simp [hi])).1 (hz i hi)
      refine ⟨by omega, fun c hc => ?_, fun c hc => ?_, List.pairwise_iff_getElem.2 fun i j hi hj hij => ?_, fun d => ?_, by omega⟩
      · obtain ⟨i, hi, rfl⟩ := List.mem_iff_getElem.1 hc
        exact (at' i hi).1
      · obtain ⟨i, hi, rfl⟩ := List.mem_iff_getElem.1 hc
        exact (at' i hi).2.1
      · refine (at' j hj).2.2.1 _ ?_
        rw [List.mem_take_iff_getElem]
        exact ⟨i, by omega, rfl⟩
      · have := few (L := L) (nx := nx) (k := L.length) (Nat.le_refl _) hs d
        rwa [List.take_length] at this
  · rw [if_pos hs]
    refine ⟨fun h => absurd h hs, fun h => absurd (scan_zero.2 fun i hi => ?_) hs⟩
    have hc : L[i]? = some L[i] := by simp [hi]
    refine (code_zero hc).2 ⟨h.mom _ (List.getElem_mem hi), h.no _ (List.getElem_mem hi), fun d hd => ?_, fun h4 => ?_⟩
    · obtain ⟨k, hk, rfl⟩ := List.mem_take_iff_getElem.1 hd
      exact List.pairwise_iff_getElem.1 h.dis k i (by omega) hi (by omega)
    · have := h.per L[i].domain
      have e : L.countP (fun d => decide (d.domain = L[i].domain)) = (L.take (i + 1)).countP (fun d => decide (d.domain = L[i].domain)) + (L.drop (i + 1)).countP (fun d => decide (d.domain = L[i].domain)) := by
        rw [← List.countP_append, List.take_append_drop]
      rw [List.take_add_one, hc, List.countP_append, h4] at e
      simp at e
      omega
end Go.Proofs.YtepnalbefjicgaaGreatDoor.JarQ
end

section
namespace Go.Proofs.YtepnalbefjicgaaGreatDoor.Abs
open Go.RowKit Mem Facts

/-- A byte as a rune. -/
abbrev runeT (c : UInt8) : V := .int .i32 (c.toNat : Int)
section
variable {X A A' : Nat → Prop} {φ φ' : Nat → Pl} {w w' : World} {P : Program} {tb : List Ty} {T : Nat} {e ee e' : Ty} {N : Env} {M : Nat → Prop} {o : Oper} {s : S} {a : Act} {x y : Operand} {el : Nat} {L : List UInt8}
/-! ### Arrays of plain values that are compared -/
def eqI (us vs : List V) : List Nat → Bool
  | [] => true
  | i :: r => (match nth us i, nth vs i with
    | some u, some v => eqS u v
    | _, _ => false) && eqI us vs r
def okI (k : Nat) (us vs : List V) : List Nat → Bool
  | [] => true
  | i :: r => (match nth us i, nth vs i with
    | some u, some v => okS k u v
    | _, _ => false) && okI k us vs r
end

section
variable {P : Program} {N : Env} {l r : List Oper} {o : Oper} {tm : List (Nat × V)} {st : List (Nat × Option Blk)} {nx nt : Nat} {tr : List Tr} {K : S → List Tr → Prop} {tb : List Ty} {d T : Nat} {t t' : TypeId} {x y z : Operand} {a b n : Int} {p q : List UInt8} {u v : Bool} {e ee : Ty} {kd : IntKind}
theorem x_stI {α : Type} (f : α → V) {L : List α} {a1 a0 : α} {m i0 el sz : Nat} (j : Nat) (htb : TbOk P tb) (k : ARun P N l K r ⟨tm, (m, some (.els el sz ((L.set j a1).map f))) :: st, nx, nt⟩ (tr ++ [trOf l o ⟨[(x, .loc m i0 0), (y, f a1)], [(m, .els el sz (L.map f))]⟩ [(m, some (.els el sz ((L.set j a1).map f)))]])) (ho : o.op = .store t x y := by rfl) (hx : S.ev ⟨tm, st, nx, nt⟩ x = some (.loc m i0 0) := by rfl) (hy : S.ev ⟨tm, st, nx, nt⟩ y = some (f a1) := by rfl) (hg : guardV l o ⟨tm, st, nx, nt⟩ = some true := by rfl) (hd : o.dst = none := by rfl) (hB : S.blk ⟨tm, st, nx, nt⟩ m = some (.els el sz (L.map f)) := by rfl) (hT' : nth tb t = some e := by rfl) (hi : i0 = j := by omega) (hL : L[j]? = some a0 := by assumption) (h1 : (f a1).cells.all V.one = true := by rfl) (h2 : (f a1).cells.length = e.size := by rfl) (hp : putV (f a0) 0 (f a1) = some (f a1) := by rfl) (hel : (!(f a0).one || Nat.beq (f a1).cells.length 1) = true := by rfl) : ARun P N l K (o :: r) ⟨tm, st, nx, nt⟩ tr := r_set hg hd (law_store htb ho hT' (i := i0) (el := f a0) (by subst hi; rw [List.getElem?_map, hL]; rfl) h1 h2 hp hel (by subst hi; rw [List.map_set])) (hT hx (hT hy (hN hB h0))) k
theorem x_ldI {α : Type} (f : α → V) {L : List α} {a0 : α} {m i0 el sz : Nat} (j : Nat) (htb : TbOk P tb) (k : ARun P N l K r ⟨(d, f a0) :: tm, st, nx, nt⟩ (tr ++ [trOf l o ⟨[(x, .loc m i0 0)], [(m, .els el sz (L.map f))]⟩ []])) (ho : o.op = .load t x := by rfl) (hx : S.ev ⟨tm, st, nx, nt⟩ x = some (.loc m i0 0) := by rfl) (hg : guardV l o ⟨tm, st, nx, nt⟩ = some true := by rfl) (hd : o.dst = some d := by rfl) (hlt : Nat.blt d nt = true := by rfl) (hB : S.blk ⟨tm, st, nx, nt⟩ m = some (.els el sz (L.map f)) := by rfl) (hT' : nth tb t = some e := by rfl) (hi : i0 = j := by omega) (hL : L[j]? = some a0 := by assumption) (hv : subV (f a0).cells 0 e.agg e.size = some (f a0) := by rfl) : ARun P N l K (o :: r) ⟨tm, st, nx, nt⟩ tr := r_val hg hd hlt (law_load htb ho hT' (i := i0) (el := f a0) (by subst hi; rw [List.getElem?_map, hL]; rfl) hv) (hT hx (hN hB h0)) k
theorem x_mk0 {α : Type} (f : α → V) (n : Nat) {c : Int} {el sz : Nat} {z0 : V} {kc : IntKind} (htb : TbOk P tb) (k : ARun P N l K r ⟨(d, .own nx 0 ([] : List α).length) :: tm, (nx, some (.els el sz (([] : List α).map f))) :: st, nx + 1, nt⟩ (tr ++ [trOf l o ⟨[(x, .int kd 0), (y, .int kc c)], []⟩ [(nx, some (.els el sz (([] : List α).map f)))]])) (ho : o.op = .makeSlice T x y := by rfl) (hx : S.ev ⟨tm, st, nx, nt⟩ x = some (.int kd 0) := by rfl) (hy : S.ev ⟨tm, st, nx, nt⟩ y = some (.int kc c) := by rfl) (hg : guardV l o ⟨tm, st, nx, nt⟩ = some true := by rfl) (hd : o.dst = some d := by rfl) (hlt : Nat.blt d nt = true := by rfl) (hT' : nth tb T = some e := by rfl) (hs : e.sl = some el := by rfl) (hE : nth tb el = some ee := by rfl) (hz : ee.zeroV = some z0 := by rfl) (hsz : ee.size = sz := by rfl) (hzl : z0.cells.length = sz := by rfl) (h0' : Nat.ble 1 sz = true := by rfl) (hn : c = (n : Int) := by first | rfl | omega) (hlim : n ≤ LIM := by first | omega | (simp only [LIM] at *; omega)) (hby : ee.bytes * n ≤ 281474976710656 := by show (_ : Nat) * _ ≤ _; first | (simp; done) | (simp; omega) | omega) : ARun P N l K (o :: r) ⟨tm, st, nx, nt⟩ tr := r_new rfl hg hd hlt (law_makeSlice0 htb ho hT' hs hE hz hsz hzl h0' hn hlim hby) (hT hx (hT hy h0)) k
theorem x_subK (k : ARun P N l K r ⟨(d, .int kd n) :: tm, st, nx, nt⟩ (tr ++ [trOf l o ⟨[(x, .int kd a), (y, .int kd b)], []⟩ []])) (ho : o.op = .binOp .sub t x y t' := by rfl) (hx : S.ev ⟨tm, st, nx, nt⟩ x = some (.int kd a) := by rfl) (hy : S.ev ⟨tm, st, nx, nt⟩ y = some (.int kd b) := by rfl) (hg : guardV l o ⟨tm, st, nx, nt⟩ = some true := by rfl) (hd : o.dst = some d := by rfl) (hlt : Nat.blt d nt = true := by rfl) (he : kd.wrap (a - b) = n := by assumption) : ARun P N l K (o :: r) ⟨tm, st, nx, nt⟩ tr := r_val hg hd hlt (law_sub' ho he) (hT hx (hT hy h0)) k
end
end Go.Proofs.YtepnalbefjicgaaGreatDoor.Abs
end

section
namespace Go.Proofs.YtepnalbefjicgaaGreatDoor.JarA
open Go.RowKit Mem Abs Scan JarP JarQ

abbrev jarV (L : List Cookie) (nx : Int) : Abs.V := .agg [.fro (L.map Cookie.v), .int .i64 nx]
set_option maxRecDepth 100000 in
set_option maxHeartbeats 4000000 in
theorem is_v {n : Int} : ACalls Tryz.prog 17 [.int .i64 n] (.bool (isJ n)) := by
  unfold isJ
  by_cases h1 : -11644473600 ≤ n
  · rw [decide_eq_true h1]
    by_cases h2 : n ≤ 253402300799
    · rw [decide_eq_true h2]
      refine fun1 tb_ok Tryz.func17 rfl Tryz.ntmps17 Tryz.results17 rfl fun N => ?_
      repeat' (first | refine zt ?_ | (refine isR ?_; first | refine zo ?_ | refine zc2 ?_ | refine zc4 ?_ | (refine zs2 ?_ ?_ <;> intro hc) | (refine zs4 ?_ ?_ <;> intro hc)) | refine awp_split rfl (fun hb => ?_) (fun hb => ?_) | refine zr ?_ | exact x_le)
      all_goals first | rfl | (exfalso; omega)
    · rw [decide_eq_false h2]
      refine fun1 tb_ok Tryz.func17 rfl Tryz.ntmps17 Tryz.results17 rfl fun N => ?_
      repeat' (first | refine zt ?_ | (refine isR ?_; first | refine zo ?_ | refine zc2 ?_ | refine zc4 ?_ | (refine zs2 ?_ ?_ <;> intro hc) | (refine zs4 ?_ ?_ <;> intro hc)) | refine awp_split rfl (fun hb => ?_) (fun hb => ?_) | refine zr ?_ | exact x_le)
      all_goals first | rfl | (exfalso; omega)
  · rw [decide_eq_false h1]
    refine fun1 tb_ok Tryz.func17 rfl Tryz.ntmps17 Tryz.results17 rfl fun N => ?_
    repeat' (first | refine zt ?_ | (refine isR ?_; first | refine zo ?_ | refine zc2 ?_ | refine zc4 ?_ | (refine zs2 ?_ ?_ <;> intro hc) | (refine zs4 ?_ ?_ <;> intro hc)) | refine awp_split rfl (fun hb => ?_) (fun hb => ?_) | refine zr ?_ | exact x_le)
    all_goals first | rfl | (exfalso; omega)
set_option maxRecDepth 100000 in
set_option maxHeartbeats 4000000 in
theorem moments_v {c : Cookie} : ACalls Tryz.prog 18 [c.v] (.bool (!badM c)) := by
  have c1 := is_v (n := c.created)
  have c2 := is_v (n := c.used)
  unfold badM
  generalize isJ c.created = a at *
  generalize isJ c.used = b at *
  cases a <;> cases b
  all_goals
    refine fun1 tb_ok Tryz.func18 rfl Tryz.ntmps18 Tryz.results18 rfl fun N => ?_
    repeat' (first | refine zt ?_ | (refine isR ?_; first | refine zo ?_ | refine zk c1 ?_ | refine zk c2 ?_) | refine awp_split rfl (fun hb => ?_) (fun hb => ?_) | refine zr ?_ | exact x_le)
    all_goals first | rfl | (exfalso; omega)
end Go.Proofs.YtepnalbefjicgaaGreatDoor.JarA
end

section
namespace Go.Proofs.YtepnalbefjicgaaGreatDoor.Rdy
open Go.RowKit Mem Abs TreeW HostP HostO HostA HostB HostC HostD PathT WordP WordS Rune JarP JarQ JarA

def hostOk (l : List UInt8) : Bool := decide (canonF l = (l, 0))
def badI (c : Int) : Bool := (decide (c < 32) && !decide (c = 9)) || decide (c = 127)
def badB (b : UInt8) : Bool := badI (b.toNat : Int)
def letF (s : List UInt8) : Bool := s.all fun b => !badB b
theorem hostOk_eq (l : List UInt8) : hostOk l = (decide ((canonF l).2 = 0) && decide ((canonF l).1 = l)) := by
  unfold hostOk
  obtain ⟨a, b⟩ := canonF l
  simp [Bool.and_comm, Prod.mk.injEq, Bool.decide_and]
set_option maxRecDepth 100000 in
set_option maxHeartbeats 4000000 in
theorem host_v {l : List UInt8} : ACalls Tryz.prog 52 [strT l] (.bool (hostOk l)) := by
  have c1 := canon_v (l := l)
  rw [hostOk_eq]
  generalize canonF l = p at *
  obtain ⟨h, n⟩ := p
  dsimp only [pairT] at c1
  refine fun1 tb_ok Tryz.func52 rfl Tryz.ntmps52 Tryz.results52 rfl fun N => ?_
  by_cases h0 : n = 0
  · subst h0
    by_cases h1 : h = l
    · subst h1
      repeat' (first | refine zt ?_ | (refine isR ?_; first | refine zo ?_ | refine zk c1 ?_ | refine zc5 ?_ | (refine zs5 ?_ ?_ <;> intro hc)) | refine awp_split rfl (fun hb => ?_) (fun hb => ?_) | refine zr ?_ | exact x_le)
      simp; rfl
    · skip
      repeat' (first | refine zt ?_ | (refine isR ?_; first | refine zo ?_ | refine zk c1 ?_ | refine zc5 ?_ | (refine zs5 ?_ ?_ <;> intro hc)) | refine awp_split rfl (fun hb => ?_) (fun hb => ?_) | refine zr ?_ | exact x_le)
      simp [h1]; rfl
  · skip
    repeat' (first | refine zt ?_ | (refine isR ?_; first | refine zo ?_ | refine zk c1 ?_ | refine zc5 ?_ | (refine zs5 ?_ ?_ <;> intro hc)) | refine awp_split rfl (fun hb => ?_) (fun hb => ?_) | refine zr ?_ | exact x_le)
    simp [h0]; rfl
set_option maxRecDepth 100000 in
set_option maxHeartbeats 4000000 in
theorem let1_v {c : Int} : ACalls Tryz.prog 75 [.int .i32 c] (.bool (badI c)) := by
  refine fun1 tb_ok Tryz.func75 rfl Tryz.ntmps75 Tryz.results75 rfl fun N => ?_
  unfold badI
  repeat' (first | refine zt ?_ | (refine isR ?_; first | refine zo ?_ | refine zc1 ?_ | refine zc5 ?_ | refine zc6 ?_ | (refine zs1 ?_ ?_ <;> intro hc) | (refine zs5 ?_ ?_ <;> intro hc) | (refine zs6 ?_ ?_ <;> intro hc)) | refine awp_split rfl (fun hb => ?_) (fun hb => ?_) | refine zr ?_ | exact x_le)
  all_goals (show V.bool _ = V.bool _; first | (simp [*]; done) | (simp [*]; omega))
set_option maxRecDepth 100000 in
set_option maxHeartbeats 4000000 in
theorem idx_v {s : List UInt8} : ACalls Tryz.prog 93 [strT s, .fn (.func 75) [] [], .bool true] (.int .i64 (firstI badB s)) := ACalls.lim fun hl => by
  have hlim := (TreeW.str_lim hl).1
  refine fun3 tb_ok Tryz.func93 rfl Tryz.ntmps93 Tryz.results93 rfl fun N => ?_
  repeat' (first | refine zt ?_ | (refine isR ?_; first | refine zo ?_ | refine x_range tb_ok ?_ | refine zc5 ?_ | (refine zs5 ?_ ?_ <;> intro hc)) | refine awp_split rfl (fun hb => ?_) (fun hb => ?_) | refine zr ?_ | exact x_le)
  refine awp_while (fun k => ⟨[(0, strT s), (1, .fn (.func 75) [] []), (2, .bool true), (10, .loc 0 0 0)], [(0, some (.sit (str s) k))], 1, 21⟩) (fun k => k ≤ s.length ∧ ∀ j y, j < k → s[j]? = some y → badB y = false) (fun k => s.length - k) 0 (by exact x_le) ⟨Nat.zero_le _, fun j y h => absurd h (Nat.not_lt_zero _)⟩ ?_
  intro k ⟨hk, hp⟩
  have hsz : (str s).size = s.length := str_size s
  by_cases hk2 : k < s.length
  · obtain ⟨c, wd, hdec, h1, h2, h3, hcase⟩ := rune_at s k hk2
    have hps : k < (str s).size := by rw [hsz]; exact hk2
    have hw : k + wd ≤ SLIM := by simp only [SLIM]; omega
    have c1 := let1_v (c := (c : Int))
    rcases hcase with ⟨b, g1, g2, g3, g4⟩ | ⟨g1, g2⟩
    · cases hb : badI (c : Int) with
      | true =>
        rw [hb] at c1
        repeat' (first | refine zt ?_ | (refine isR ?_; first | refine zo ?_ | refine x_next _ _ ?_ | refine x_callv (c1 _) ?_ | refine x_callv (c1) ?_ | refine zc5 ?_ | (refine zs5 ?_ ?_ <;> intro hc)) | refine awp_split rfl (fun hb => ?_) (fun hb => ?_) | refine zr ?_ | exact x_le)
        show V.int .i64 _ = V.int .i64 _
        rw [firstI_at hp g1 (by unfold badB; rw [← g3]; exact hb)]
      | false =>
        rw [hb] at c1
        repeat' (first | refine zt ?_ | (refine isR ?_; first | refine zo ?_ | refine x_next _ _ ?_ | refine x_callv (c1 _) ?_ | refine x_callv (c1) ?_ | refine zc5 ?_ | (refine zs5 ?_ ?_ <;> intro hc)) | refine awp_split rfl (fun hb => ?_) (fun hb => ?_) | refine zr ?_ | exact x_le)
        refine ⟨k + wd, ⟨h2, fun j y hj hy => ?_⟩, by omega, (by exact x_le)⟩
        by_cases e : j < k
        · exact hp j y e hy
        · obtain rfl : j = k := by omega
          rw [g1] at hy; cases hy
          unfold badB; rw [← g3]; exact hb
    · have hb : badI (c : Int) = false := by
        unfold badI
        rw [decide_eq_false (by omega), decide_eq_false (by omega), decide_eq_false (by omega)]; rfl
      rw [hb] at c1
      repeat' (first | refine zt ?_ | (refine isR ?_; first | refine zo ?_ | refine x_next _ _ ?_ | refine x_callv (c1 _) ?_ | refine x_callv (c1) ?_ | refine zc5 ?_ | (refine zs5 ?_ ?_ <;> intro hc)) | refine awp_split rfl (fun hb => ?_) (fun hb => ?_) | refine zr ?_ | exact x_le)
      refine ⟨k + wd, ⟨h2, fun j y hj hy => ?_⟩, by omega, (by exact x_le)⟩
      by_cases e : j < k
      · exact hp j y e hy
      · obtain ⟨b, f1, f2⟩ := g2 j (by omega) (by omega)
        rw [f1] at hy; cases hy
        unfold badB badI
        rw [decide_eq_false (by omega), decide_eq_false (by omega), decide_eq_false (by omega)]; rfl
  · have hps : ¬ k < (str s).size := by rw [hsz]; exact hk2
    repeat' (first | refine zt ?_ | (refine isR ?_; first | refine zo ?_ | refine x_nextE ?_ | refine zc5 ?_ | (refine zs5 ?_ ?_ <;> intro hc)) | refine awp_split rfl (fun hb => ?_) (fun hb => ?_) | refine zr ?_ | exact x_le)
    show V.int .i64 _ = V.int .i64 _
    rw [firstI_none fun x hx => ?_]
    obtain ⟨i, hi⟩ := List.mem_iff_getElem?.1 hx
    exact hp i x (by have := (List.getElem?_eq_some_iff.1 hi).1; omega) hi
set_option maxRecDepth 100000 in
set_option maxHeartbeats 4000000 in
theorem index_v {s : List UInt8} : ACalls Tryz.prog 74 [strT s, .fn (.func 75) [] []] (.int .i64 (firstI badB s)) := by
  have c1 := idx_v (s := s)
  refine fun2 tb_ok Tryz.func74 rfl Tryz.ntmps74 Tryz.results74 rfl fun N => ?_
  repeat' (first | refine zt ?_ | (refine isR ?_; first | refine zo ?_ | refine zk c1 ?_) | refine awp_split rfl (fun hb => ?_) (fun hb => ?_) | refine zr ?_ | exact x_le)
  rfl
theorem first_let (s : List UInt8) : letF s = decide (firstI badB s < 0) := by
  have h := firstI_ge (p := badB) (l := s)
  have e : letF s = !s.any badB := by unfold letF; rw [List.not_any_eq_all_not]
  rw [e]
  cases ha : s.any badB with
  | true => rw [ha] at h; rw [decide_eq_false (by have := h.2 rfl; omega)]; rfl
  | false =>
    have : ¬ (0 ≤ firstI badB s) := fun g => by rw [h.1 g] at ha; cases ha
    rw [decide_eq_true (by omega)]; rfl
set_option maxRecDepth 100000 in
set_option maxHeartbeats 4000000 in
theorem let_v {s : List UInt8} : ACalls Tryz.prog 54 [strT s] (.bool (letF s)) := by
  have c1 := index_v (s := s)
  rw [first_let]
  generalize firstI badB s = n at *
  refine fun1 tb_ok Tryz.func54 rfl Tryz.ntmps54 Tryz.results54 rfl fun N => ?_
  repeat' (first | refine zt ?_ | (refine isR ?_; first | refine zo ?_ | refine zk c1 ?_ | refine zc1 ?_ | (refine zs1 ?_ ?_ <;> intro hc)) | refine awp_split rfl (fun hb => ?_) (fun hb => ?_) | refine zr ?_ | exact x_le)
  all_goals (show V.bool _ = V.bool _; simp [*])
set_option maxRecDepth 100000 in
set_option maxHeartbeats 4000000 in
theorem contains_v {s : List UInt8} {c : UInt8} : ACalls Tryz.prog 55 [strT s, strT [c]] (.bool (s.contains c)) := fun g N w vs hG hN hlen hv => by
  obtain ⟨vs⟩ := vs
  match vs, hlen with
  | [x0, x1], _ =>
    obtain ⟨rfl, h0⟩ := fz_str (hv 0 _ x0 rfl rfl)
    obtain ⟨rfl, _⟩ := fz_str (hv 1 _ x1 rfl rfl)
    refine (Tryz.strings_Contains_one (str s) c w).mono fun e w' ⟨h1, h2⟩ => ⟨_, h1, h2 ▸ Below.refl _ _, ?_⟩
    rw [str_toList, index_ge]
    exact .bool
def readyF (f : From) (now : Int) : Int := if hostOk f.host = true ∧ pre f.path [47] = true ∧ letF f.path = true ∧ f.path.contains 59 = false ∧ f.path.length ≤ 400 then (if isJ now then 0 else 3) else 1
set_option maxRecDepth 100000 in
set_option maxHeartbeats 4000000 in
theorem ready_v {f : From} {now : Int} : ACalls Tryz.prog 25 [f.v, .int .i64 now] (.int .i64 (readyF f now)) := by
  have c1 := host_v (l := f.host)
  have c2 := hasPrefix_v (l := f.path) (m := [47])
  have c3 := let_v (s := f.path)
  have c4 := contains_v (s := f.path) (c := 59)
  have c5 := is_v (n := now)
  unfold readyF
  obtain ⟨f1, f2, f3, f4, f5⟩ := f
  dsimp only at *
  generalize hostOk f1 = x1 at *
  generalize pre f2 [47] = x2 at *
  generalize letF f2 = x3 at *
  generalize f2.contains 59 = x4 at *
  generalize isJ now = x5 at *
  show ACalls _ _ [.agg [strT f1, strT f2, .bool f3, .bool f4, .bool f5], .int .i64 now] _
  have z : ∀ {p : Prop} [Decidable p] {a b : Int}, ¬ p → (if p then a else b) = b := fun h => if_neg h
  cases x1
  · rw [z (by simp)]
    refine fun2 tb_ok Tryz.func25 rfl Tryz.ntmps25 Tryz.results25 rfl fun N => ?_
    repeat' (first | refine zt ?_ | (refine isR ?_; first | refine zo ?_ | refine zk c1 ?_ | refine zL ?_ | refine zc3 ?_ | (refine zs3 ?_ ?_ <;> intro hc)) | refine awp_split rfl (fun hb => ?_) (fun hb => ?_) | refine zr ?_ | exact x_le)
    rfl
  cases x2
  · rw [z (by simp)]
    refine fun2 tb_ok Tryz.func25 rfl Tryz.ntmps25 Tryz.results25 rfl fun N => ?_
    repeat' (first | refine zt ?_ | (refine isR ?_; first | refine zo ?_ | refine zk c1 ?_ | refine zk c2 ?_ | refine zL ?_ | refine zc3 ?_ | (refine zs3 ?_ ?_ <;> intro hc)) | refine awp_split rfl (fun hb => ?_) (fun hb => ?_) | refine zr ?_ | exact x_le)
    rfl
  cases x3
  · rw [z (by simp)]
    refine fun2 tb_ok Tryz.func25 rfl Tryz.ntmps25 Tryz.results25 rfl fun N => ?_
    repeat' (first | refine zt ?_ | (refine isR ?_; first | refine zo ?_ | refine zk c1 ?_ | refine zk c2 ?_ | refine zk c3 ?_ | refine zL ?_ | refine zc3 ?_ | (refine zs3 ?_ ?_ <;> intro hc)) | refine awp_split rfl (fun hb => ?_) (fun hb => ?_) | refine zr ?_ | exact x_le)
    rfl
  cases x4
  · by_cases h : f2.length ≤ 400
    · rw [if_pos ⟨rfl, rfl, rfl, rfl, h⟩]
      cases x5
      · skip
        refine fun2 tb_ok Tryz.func25 rfl Tryz.ntmps25 Tryz.results25 rfl fun N => ?_
        repeat' (first | refine zt ?_ | (refine isR ?_; first | refine zo ?_ | refine zk c1 ?_ | refine zk c2 ?_ | refine zk c3 ?_ | refine zk c4 ?_ | refine zk c5 ?_ | refine zL ?_ | refine zc3 ?_ | (refine zs3 ?_ ?_ <;> intro hc)) | refine awp_split rfl (fun hb => ?_) (fun hb => ?_) | refine zr ?_ | exact x_le)
        rfl
      · skip
        refine fun2 tb_ok Tryz.func25 rfl Tryz.ntmps25 Tryz.results25 rfl fun N => ?_
        repeat' (first | refine zt ?_ | (refine isR ?_; first | refine zo ?_ | refine zk c1 ?_ | refine zk c2 ?_ | refine zk c3 ?_ | refine zk c4 ?_ | refine zk c5 ?_ | refine zL ?_ | refine zc3 ?_ | (refine zs3 ?_ ?_ <;> intro hc)) | refine awp_split rfl (fun hb => ?_) (fun hb => ?_) | refine zr ?_ | exact x_le)
        rfl
    · rw [z (by simp [h])]
      refine fun2 tb_ok Tryz.func25 rfl Tryz.ntmps25 Tryz.results25 rfl fun N => ?_
      repeat' (first | refine zt ?_ | (refine isR ?_; first | refine zo ?_ | refine zk c1 ?_ | refine zk c2 ?_ | refine zk c3 ?_ | refine zk c4 ?_ | refine zL ?_ | refine zc3 ?_ | (refine zs3 ?_ ?_ <;> intro hc)) | refine awp_split rfl (fun hb => ?_) (fun hb => ?_) | refine zr ?_ | exact x_le)
      rfl
  · rw [z (by simp)]
    refine fun2 tb_ok Tryz.func25 rfl Tryz.ntmps25 Tryz.results25 rfl fun N => ?_
    repeat' (first | refine zt ?_ | (refine isR ?_; first | refine zo ?_ | refine zk c1 ?_ | refine zk c2 ?_ | refine zk c3 ?_ | refine zk c4 ?_ | refine zL ?_ | refine zc3 ?_ | (refine zs3 ?_ ?_ <;> intro hc)) | refine awp_split rfl (fun hb => ?_) (fun hb => ?_) | refine zr ?_ | exact x_le)
    rfl
end Go.Proofs.YtepnalbefjicgaaGreatDoor.Rdy
end

section
namespace Go.Proofs.YtepnalbefjicgaaGreatDoor.GrantP
open Scan

def codeV (V : List Int) (i : Nat) : Nat := if V.getD i 0 < 1 ∨ 40 < V.getD i 0 then 3 else if 0 < i ∧ V.getD i 0 ≤ V.getD (i - 1) 0 then 4 else 0
def codeG (g : Int) : Nat := if g < 0 ∨ 68719476735 < g then 3 else 0
def check (g : Int) (V : List Int) : Nat := if codeG g = 0 then scan (codeV V) V.length else 3
theorem codeV_zero {V : List Int} {i : Nat} : codeV V i = 0 ↔ (1 ≤ V.getD i 0 ∧ V.getD i 0 ≤ 40) ∧ (0 < i → V.getD (i - 1) 0 < V.getD i 0) := by
  unfold codeV
  split
  · constructor
    · intro h; cases h
    · intro h; omega
  · split
    · constructor
      · intro h; cases h
      · intro h; omega
    · constructor
      · intro _; omega
      · intro _; rfl
/-- Right vendors: rising, from 1 to 40. -/
def Right (V : List Int) : Prop := V.Pairwise (· < ·) ∧ ∀ v ∈ V, 1 ≤ v ∧ v ≤ 40
theorem right_of {V : List Int} (h : scan (codeV V) V.length = 0) : Right V := by
  have ha := scan_zero.1 h
  have step : ∀ i, i + 1 < V.length → V.getD i 0 < V.getD (i + 1) 0 := fun i hi => (codeV_zero.1 (ha (i + 1) hi)).2 (by omega)
  have lt : ∀ d i, i + d + 1 < V.length → V.getD i 0 < V.getD (i + d + 1) 0 := by
    intro d
    induction d with
    | zero => intro i hi; exact step i hi
    | succ d ih => intro i hi; exact Int.lt_trans (ih i (by omega)) (step (i + d + 1) hi)
  have at' : ∀ i (hi : i < V.length), V.getD i 0 = V[i] := fun i hi => by rw [List.getD_eq_getElem?_getD, List.getElem?_eq_getElem hi]; rfl
  refine ⟨List.pairwise_iff_getElem.2 fun i j hi hj hij => ?_, fun v hv => ?_⟩
  · have := lt (j - i - 1) i (by omega)
    rw [show i + (j - i - 1) + 1 = j from by omega, at' i hi, at' j hj] at this
    exact this
  · obtain ⟨i, hi, rfl⟩ := List.mem_iff_getElem.1 hv
    have := (codeV_zero.1 (ha i hi)).1
    rwa [at' i hi] at this
theorem of_right {V : List Int} (h : Right V) : scan (codeV V) V.length = 0 := by
  have at' : ∀ i (hi : i < V.length), V.getD i 0 = V[i] := fun i hi => by rw [List.getD_eq_getElem?_getD, List.getElem?_eq_getElem hi]; rfl
  refine scan_zero.2 fun i hi => codeV_zero.2 ⟨?_, fun h0 => ?_⟩
  · rw [at' i hi]; exact h.2 _ (List.getElem_mem hi)
  · rw [at' i hi, at' (i - 1) (by omega)]
    exact List.pairwise_iff_getElem.1 h.1 (i - 1) i (by omega) hi (by omega)
def nums : List Int := (List.range 40).map fun i : Nat => (i : Int) + 1
def upto (f : Int → Bool) : List Int := nums.filter f
def mayP (P : Nat → Bool) (p : Int) : Bool := p == 0 || (decide (1 ≤ p) && decide (p ≤ 10) && P (p - 1).toNat)
def mayV (V : List Int) (v : Int) : Bool := v == 0 || V.contains v
def may (P : Nat → Bool) (V : List Int) (p v : Int) : Bool := mayP P p && mayV V v
def lessP (P Q : Nat → Bool) : Bool := (List.range 10).all fun i => !P i || Q i
def less (P Q : Nat → Bool) (V U : List Int) : Bool := lessP P Q && V.all (U.contains ·)
def same10 (P Q : Nat → Bool) : Bool := (List.range 10).all fun i => P i == Q i
/-- As far as i purposes were looked at. -/
def mayTo (P : Nat → Bool) (p : Int) (i : Nat) : Bool := p == 0 || (decide (1 ≤ p) && decide (p ≤ i) && P (p - 1).toNat)
end Go.Proofs.YtepnalbefjicgaaGreatDoor.GrantP
end

section
namespace Go.Proofs.YtepnalbefjicgaaGreatDoor.PolP
open Abs HostP PathT Rdy JarP

abbrev Pol := Policy
abbrev capsL (C : Nat → Int) : List Int := [C 0, C 1, C 2, C 3, C 4, C 5, C 6, C 7, C 8, C 9, C 10]
abbrev polV (p : Pol) : Abs.V := Policy.v p
def purp (n : Int) : Bool := decide (0 ≤ n) && decide (n ≤ 10)
def codeR (r : Rule) : Nat := if r.kind < 1 ∨ 4 < r.kind then 7 else if r.text = [] ∨ 400 < r.text.length ∨ (r.kind = 4 ∧ hostOk r.text = false) then 1 else if purp r.purpose = false ∨ r.vendor < 0 ∨ 40 < r.vendor then 3 else 0
def codeRs : List Rule → Nat
  | [] => 0
  | r :: l => if codeR r = 0 then codeRs l else codeR r
def badC (n : Int) : Bool := decide (n < 1) || decide (1000000000 < n)
def badCs (C : Nat → Int) : Bool := (capsL C).any badC
def checkP (p : Pol) : Nat := if 12 < p.rules.length then 2 else if codeRs p.rules ≠ 0 then codeRs p.rules else if purp p.dflt = false ∨ badCs p.caps = true then 3 else 0
structure OkR (r : Rule) : Prop where
  kind : 1 ≤ r.kind ∧ r.kind ≤ 4
  text : r.text.length ≤ 400
  purp : 0 ≤ r.purpose ∧ r.purpose ≤ 10
theorem purp_iff {n : Int} : purp n = true ↔ 0 ≤ n ∧ n ≤ 10 := by unfold purp; simp
theorem codeR_zero {r : Rule} (h : codeR r = 0) : OkR r := by
  unfold codeR at h
  split at h
  · cases h
  · split at h
    · cases h
    · split at h
      · cases h
      · rename_i h1 h2 h3
        exact ⟨by omega, Nat.le_of_not_lt fun h => h2 (.inr (.inl h)), purp_iff.1 (by
          cases hp : purp r.purpose with
          | true => rfl
          | false => exact absurd (.inl hp) h3)⟩
theorem codeRs_zero : ∀ {l : List Rule}, codeRs l = 0 → ∀ r ∈ l, OkR r
  | [], _, r, hr => by cases hr
  | a :: l, h, r, hr => by
    rw [codeRs] at h
    split at h
    · rename_i h0
      rcases List.mem_cons.1 hr with rfl | hr
      · exact codeR_zero h0
      · exact codeRs_zero h r hr
    · rename_i h0; exact absurd h h0
structure OkP (p : Pol) : Prop where
  len : p.rules.length ≤ 12
  rules : ∀ r ∈ p.rules, OkR r
  dflt : 0 ≤ p.dflt ∧ p.dflt ≤ 10
  caps : ∀ i, i ≤ 10 → 1 ≤ p.caps i ∧ p.caps i ≤ 1000000000
theorem check_ok {p : Pol} (h : checkP p = 0) : OkP p := by
  unfold checkP at h
  split at h
  · cases h
  · split at h
    · rename_i h1 h2; exact absurd h h2
    · split at h
      · cases h
      · rename_i h1 h2 h3
        refine ⟨by omega, codeRs_zero (by simpa using h2), purp_iff.1 (by
          cases hp : purp p.dflt with
          | true => rfl
          | false => exact absurd (.inl hp) h3), fun i hi => ?_⟩
        have hb : badCs p.caps = false := by
          cases hp : badCs p.caps with
          | false => rfl
          | true => exact absurd (.inr hp) h3
        have hm : p.caps i ∈ capsL p.caps := by
          have : i = 0 ∨ i = 1 ∨ i = 2 ∨ i = 3 ∨ i = 4 ∨ i = 5 ∨ i = 6 ∨ i = 7 ∨ i = 8 ∨ i = 9 ∨ i = 10 := by omega
          rcases this with rfl | rfl | rfl | rfl | rfl | rfl | rfl | rfl | rfl | rfl | rfl <;> simp [capsL]
        have := List.any_eq_false.1 hb _ hm
        unfold badC at this
        simp at this
        omega
/-- Is the cookie named by the rule? -/
def namesF (r : Rule) (c : Cookie) : Bool := if r.kind = 1 then decide (c.name = r.text) else if r.kind = 2 then pre c.name r.text else if r.kind = 3 then endsB c.name r.text else matchF c.domain r.text
def kindF (p : Pol) (c : Cookie) : Int × Int := match p.rules.find? (fun r => namesF r c) with
  | some r => (r.purpose, r.vendor)
  | none => (p.dflt, 0)
theorem kind_ok {p : Pol} (h : OkP p) (c : Cookie) : 0 ≤ (kindF p c).1 ∧ (kindF p c).1 ≤ 10 := by
  unfold kindF
  cases hf : p.rules.find? (fun r => namesF r c) with
  | none => exact h.dflt
  | some r => exact (h.rules r (List.mem_of_find?_eq_some hf)).purp
def mayF (P : Nat → Bool) (U : List Int) (k v : Int) : Bool := (decide (k = 0) || (purp k && P (k - 1).toNat)) && (decide (v = 0) || U.contains v)
def afterF (n s : Int) : Int := n + if s < 253402300799 - n then s else 253402300799 - n
def capF (p : Pol) (c : Cookie) : Int := afterF c.created (p.caps (kindF p c).1.toNat)
def clampF (p : Pol) (c : Cookie) : Cookie := { c with expiry := if capF p c < c.expiry then capF p c else c.expiry }
def letsF (p : Pol) (P : Nat → Bool) (U : List Int) (c : Cookie) : Bool := mayF P U (kindF p c).1 (kindF p c).2
def keptF (p : Pol) (P : Nat → Bool) (U : List Int) (now : Int) (L : List Cookie) : List Cookie := L.flatMap fun c => if letsF p P U c = true ∧ now < (clampF p c).expiry then [clampF p c] else []
theorem kept_on {p : Pol} {P : Nat → Bool} {U : List Int} {now : Int} (L : List Cookie) {k : Nat} {c : Cookie} (h : L[k]? = some c) : keptF p P U now (L.take (k + 1)) = keptF p P U now (L.take k) ++ if letsF p P U c = true ∧ now < (clampF p c).expiry then [clampF p c] else [] := by
  unfold keptF
  rw [List.take_add_one, h, List.flatMap_append]
  simp
theorem kept_len {p : Pol} {P : Nat → Bool} {U : List Int} {now : Int} : ∀ L : List Cookie, (keptF p P U now L).length ≤ L.length
  | [] => Nat.zero_le _
  | c :: L => by
    have ih := kept_len (p := p) (P := P) (U := U) (now := now) L
    have e : keptF p P U now (c :: L) = (if letsF p P U c = true ∧ now < (clampF p c).expiry then [clampF p c] else []) ++ keptF p P U now L := by unfold keptF; rw [List.flatMap_cons]
    rw [e, List.length_append, List.length_cons]
    split
    · rw [List.length_singleton]; omega
    · rw [List.length_nil]; omega
def codeRight (p : Pol) (g : Int) (U : List Int) : Nat := if checkP p ≠ 0 then checkP p else GrantP.check g U
def codePurge (L : List Cookie) (nx : Int) (p : Pol) (g : Int) (U : List Int) (now : Int) : Nat := if checkJ L nx ≠ 0 then checkJ L nx else if codeRight p g U ≠ 0 then codeRight p g U else if isJ now = false then 3 else 0
end Go.Proofs.YtepnalbefjicgaaGreatDoor.PolP
end

section
namespace Go.Proofs.YtepnalbefjicgaaGreatDoor.Abs
open Go.RowKit Mem Facts
section
variable {P : Program} {N : Env} {M : Nat → Prop} {o : Oper} {s : S} {a : Act} {w : World}
/-- The method of that name, of a value of type T: function f, handed the value as it is. -/
def MethOf (P : Program) (T : TypeId) (name : String) (f : FuncId) : Prop := ∀ (x : Value) (w : World), (Go.method (P.types.size + Made.depth) T x name).run P w = .ok (f, x) w
theorem run_inv {f : Nat} {T : TypeId} {name : String} {g : Operand} {xs : Array Operand} {ts : Array TypeId} {x : Value} (ho : o.op = .call { callee := .invoke g name, args := xs, argTypes := ts }) (hg : a.eval g = .iface T x) (hm : MethOf P T name f) (hc : ∀ (fs : Array Value) (w : World), (callFunc f fs).run P w = .ok (.enter f fs) w) : (execOp a.eval o).run P w = .ok (.enter f (#[x] ++ xs.map a.eval)) w := by
  have e1 : (#[Value.iface T x] ++ xs.map a.eval)[0]? = some (.iface T x) := by
    rw [Array.getElem?_append_left (by simp)]
    rfl
  have e2 : (#[Value.iface T x] ++ xs.map a.eval).extract 1 (#[Value.iface T x] ++ xs.map a.eval).size = xs.map a.eval := by
    apply Array.ext
    · simp
    · intro i h1 h2
      rw [Array.getElem_extract, Array.getElem_append_right (by simp)]
      simp
  have e3 : (callMethod (.iface T x) name (xs.map a.eval)).run P w = (callFunc f (#[x] ++ xs.map a.eval)).run P w := by
    have hx : (Go.method (P.types.size + 100) T x name).run P w = .ok (f, x) w := hm x w
    simp [callMethod, go_sem]
    rw [hx]
    rfl
  unfold execOp
  simp only [ho, resolve, hg, Sem.run_bind, Sem.run_pure, Result.andThen_ok, invoke, e1, e2]
  rw [e3]
  exact hc _ _
theorem law_inv {f : Nat} {T : TypeId} {name : String} {g : Operand} {xs : Array Operand} {ts : Array TypeId} {vs : List V} {v r : V} (ho : o.op = .call { callee := .invoke g name, args := xs, argTypes := ts }) (hm : MethOf P T name f) (hc : ∀ (fs : Array Value) (w : World), (callFunc f fs).run P w = .ok (.enter f fs) w) (hl : vs.length = xs.size)
    (h : ACallsG P N.g f (v :: vs) r) (hn : V.namesL (v :: vs) = []) : OpLaw P N o ⟨(g, .ifc T v) :: tsOf xs.toList vs, []⟩ r [] [] := fun s M A φ a w hh hr _ hd => by
  obtain ⟨x, g1, g2⟩ : ∃ x, a.eval g = .iface T x ∧ Rep (fun b => M b ∨ N b) A φ w v x := by
    have := hr.ev hh.a
    generalize a.eval g = y at this
    cases this with
    | fz h => cases h with
      | ifc h => exact ⟨_, rfl, .fz h⟩
    | ifc h => exact ⟨_, rfl, h⟩
  have hh' : Holds ⟨tsOf xs.toList vs, []⟩ s := ⟨fun p hp => hh.1 p (List.mem_cons_of_mem _ hp), hh.2⟩
  unfold Oper.wp
  rw [run_inv ho g1 hm hc]
  refine Calls.mono (h (fun b => M b ∨ N b) w _ hr.gl hr.lim (by simp; omega) fun i u y hu hy => rep_fz (X := fun b => M b ∨ N b) (A := A) (φ := φ) ?_ (List.eq_nil_iff_forall_not_mem.2 fun m hm => ?_)) ?_
  · rcases i with _ | i
    · rw [Array.getElem?_append_left (by simp)] at hy
      simp at hu hy
      subst hu hy
      exact g2
    · have hy : (xs.map a.eval)[i]? = some y := by
        rw [Array.getElem?_append_right (by simp)] at hy
        simpa using hy
      simp only [Array.getElem?_map, Option.map_eq_some_iff] at hy
      obtain ⟨p, hp, rfl⟩ := hy
      exact hr.ev (ts_at hh' i p u (by simpa using hp) (by simpa using hu))
  · have := mem_namesL.2 ⟨u, List.mem_of_getElem? hu, hm⟩
    rw [hn] at this; cases this
  · rintro e w' ⟨x, rfl, hb, hfz⟩
    exact rel_grow_dst hr hb (.fz hfz) hd
end
section
variable {P : Program} {N : Env} {l r : List Oper} {o : Oper} {tm : List (Nat × V)} {st : List (Nat × Option Blk)} {nx nt : Nat} {tr : List Tr} {K : S → List Tr → Prop} {d : Nat}
theorem x_inv {f : Nat} {T : TypeId} {name : String} {g : Operand} {xs : Array Operand} {ts : Array TypeId} {vs : List V} {v w : V} (h : ACallsG P N.g f (v :: vs) w) (hm : MethOf P T name f) (k : ARun P N l K r ⟨(d, w) :: tm, st, nx, nt⟩ (tr ++ [trOf l o ⟨(g, .ifc T v) :: tsOf xs.toList vs, []⟩ []])) (ho : o.op = .call { callee := .invoke g name, args := xs, argTypes := ts } := by rfl) (hf : S.ev ⟨tm, st, nx, nt⟩ g = some (.ifc T v) := by rfl) (he : evL ⟨tm, st, nx, nt⟩ xs.toList = some vs := by rfl) (hg : guardV l o ⟨tm, st, nx, nt⟩ = some true := by rfl) (hd : o.dst = some d := by rfl) (hlt : Nat.blt d nt = true := by rfl) (hb : hasBody P f = true := by kernel_rfl) (hn : V.namesL (v :: vs) = [] := by rfl) : ARun P N l K (o :: r) ⟨tm, st, nx, nt⟩ tr := r_val hg hd hlt (law_inv ho hm (enters hb) (ev_len he) h hn) (hT hf (ts_of he fun p hp => by cases hp)) k
end
/-- A cell's value. -/
def cellV : V → Bool
  | .agg _ => false
  | _ => true
theorem cells_plain {cs : List V} (h : cs.all cellV = true) : ∀ u ∈ cs, u.cells = [u] := fun u hu => by
  have := List.all_eq_true.1 h u hu
  cases u <;> first | rfl | cases this
section
variable {P : Program} {tb : List Ty} {e ee : Ty} {N : Env} {l r : List Oper} {o : Oper} {tm : List (Nat × V)} {st : List (Nat × Option Blk)} {nx nt : Nat} {tr : List Tr} {K : S → List Tr → Prop} {d : Nat} {T : TypeId} {x : Operand}
theorem x_slA {cs : List V} {off len el : Nat} (htb : TbOk P tb) (k : ARun P N l K r ⟨(d, .fro ((cs.drop off).take len)) :: tm, st, nx, nt⟩ (tr ++ [trOf l o ⟨[(x, .fp cs off)], []⟩ []])) (ho : o.op = .slice T x none none none := by rfl) (hx : S.ev ⟨tm, st, nx, nt⟩ x = some (.fp cs off) := by rfl) (hg : guardV l o ⟨tm, st, nx, nt⟩ = some true := by rfl) (hd : o.dst = some d := by rfl) (hlt : Nat.blt d nt = true := by rfl) (hT' : nth tb T = some e := by rfl) (hs : e.arr = some (len, el) := by rfl) (hE : nth tb el = some ee := by rfl) (h1 : ee.size = 1 := by rfl) (h0' : Nat.blt 0 len = true := by rfl) (hl : Nat.ble len LIM = true := by rfl) (hc : Nat.ble (off + len) cs.length = true := by rfl) (hone : cs.all cellV = true := by rfl) : ARun P N l K (o :: r) ⟨tm, st, nx, nt⟩ tr := r_val hg hd hlt (law_slice_arr_fp htb ho hT' hs hE h1 (Nat.le_of_ble_eq_true h0') (Nat.le_of_ble_eq_true hl) (Nat.le_of_ble_eq_true hc) (cells_plain hone)) (hT hx h0) k
/-- A load of frozen memory, at a place that is told by a number's name. -/
theorem x_ldF {cs : List V} {off : Nat} {w : V} (htb : TbOk P tb) (hv : subV cs off e.agg e.size = some w) (k : ARun P N l K r ⟨(d, w) :: tm, st, nx, nt⟩ (tr ++ [trOf l o ⟨[(x, .fp cs off)], []⟩ []])) (ho : o.op = .load T x := by rfl) (hx : S.ev ⟨tm, st, nx, nt⟩ x = some (.fp cs off) := by rfl) (hg : guardV l o ⟨tm, st, nx, nt⟩ = some true := by rfl) (hd : o.dst = some d := by rfl) (hlt : Nat.blt d nt = true := by rfl) (hT' : nth tb T = some e := by rfl) : ARun P N l K (o :: r) ⟨tm, st, nx, nt⟩ tr := r_val hg hd hlt (law_load_fp htb ho hT' hv) (hT hx h0) k
end
/-- us is vs, its nil slices named. -/
inductive NilAs (k : Nat) : List V → List V → Prop
  | nil : NilAs k [] []
  | same {v vs us} : NilAs k vs us → NilAs k (v :: vs) (v :: us)
  | at {n vs us} : n < k → NilAs k vs us → NilAs k (.nils :: vs) (.own n 0 0 :: us)
  | agg {cs ds vs us} : NilAs k cs ds → NilAs k vs us → NilAs k (.agg cs :: vs) (.agg ds :: us)
theorem NilAs.rep {k : Nat} {X A : Nat → Prop} {φ : Nat → Pl} {w : World} {vs us : List V} (hA : ∀ n, n < k → A n ∧ (φ n).blk = none) (h : NilAs k vs us) :
    vs.length = us.length ∧ ((∀ v ∈ vs, v.one = true) → ∀ u ∈ us, u.one = true) ∧ ∀ (i : Nat) v u x, vs[i]? = some v → us[i]? = some u → Fz X w v x → Rep X A φ w u x := by
  induction h with
  | nil => exact ⟨rfl, fun h => h, fun i v u x h => by simp at h⟩
  | @same v vs us _ ih =>
    obtain ⟨h1, h2, h3⟩ := ih
    refine ⟨by simp [h1], fun h u hu => ?_, fun i v' u x hv hu hx => ?_⟩
    · rcases List.mem_cons.1 hu with rfl | hu
      · exact h _ List.mem_cons_self
      · exact h2 (fun v hv => h v (List.mem_cons_of_mem _ hv)) u hu
    · rcases i with _ | i
      · simp at hv hu
        subst hv hu
        exact .fz hx
      · exact h3 i v' u x (by simpa using hv) (by simpa using hu) hx
  | @«at» n vs us hn _ ih =>
    obtain ⟨h1, h2, h3⟩ := ih
    refine ⟨by simp [h1], fun h u hu => ?_, fun i v' u x hv hu hx => ?_⟩
    · rcases List.mem_cons.1 hu with rfl | hu
      · rfl
      · exact h2 (fun v hv => h v (List.mem_cons_of_mem _ hv)) u hu
    · rcases i with _ | i
      · simp at hv hu
        subst hv hu
        cases hx
        exact .own0 (hA n hn).1 (hA n hn).2
      · exact h3 i v' u x (by simpa using hv) (by simpa using hu) hx
  | @agg cs ds vs us _ _ ih1 ih =>
    obtain ⟨h1, h2, h3⟩ := ih
    obtain ⟨g1, g2, g3⟩ := ih1
    refine ⟨by simp [h1], fun h u hu => ?_, fun i v' u x hv hu hx => ?_⟩
    · exact absurd (h _ List.mem_cons_self) (by simp [V.one])
    · rcases i with _ | i
      · simp at hv hu
        subst hv hu
        cases hx with
        | agg k1 k2 k3 =>
          refine .agg (by omega) (g2 k2) fun i u c hu hc => ?_
          have hi : i < cs.length := by rw [g1]; exact (List.getElem?_eq_some_iff.1 hu).1
          exact g3 i cs[i] u c (by simp [hi]) hu (k3 i cs[i] c (by simp [hi]) hc)
      · exact h3 i v' u x (by simpa using hv) (by simpa using hu) hx
/-- A call that answers nil slices, as one that answers rows of one's own that are empty. -/
theorem acallsG_nil {P : Program} {g : Glob} {f : FuncId} {vs rs us : List V} {T sz : Nat} (k : Nat) (h : ACallsG P g f vs (.tup rs)) (hn : V.namesL vs = []) (hk : NilAs k rs us) (hz : 0 < sz) : MCallsG P g f vs [] (.tup us) (List.replicate k (some (.els T sz []))) := fun N M φ w vals hrows hlen hv => by
  refine Calls.mono (h (fun b => M b ∨ N b) w vals hrows.gl hrows.lim hlen fun i v x hv' hx => rep_fz (hv i v x hv' hx) (List.eq_nil_iff_forall_not_mem.2 fun m hm => ?_)) ?_
  · have := mem_namesL.2 ⟨v, List.mem_of_getElem? hv', hm⟩
    rw [hn] at this; cases this
  rintro e w' ⟨x, rfl, hb, hfz⟩
  have hst : Stays M w w' := .of_below hb
  have hlen2 : (List.replicate k (some (Blk.els T sz []))).length = k := List.length_replicate
  have at2 : ∀ n b, (List.replicate k (some (Blk.els T sz [])))[n]? = some (some b) → n < k ∧ b = .els T sz [] := fun n b h => by
    obtain ⟨h1, h2⟩ := List.getElem?_eq_some_iff.1 h
    rw [hlen2] at h1
    rw [List.getElem_replicate] at h2
    cases h2
    exact ⟨h1, rfl⟩
  refine ⟨x, M, fun _ => ⟨none, sz, 0⟩, rfl, hst, fun b _ h => h, fun n hn => absurd hn (Nat.not_lt_zero n), ⟨fun n b hb2 => ?_, fun n n' k1 k' b _ _ e => by simp at e, fun b h => Nat.lt_of_lt_of_le (hrows.lim b h) hst.size, hrows.dis, hrows.gl.stays (Stays.of_below (M := fun b => M b ∨ N b) hb) fun _ _ h => h⟩, ?_⟩
  · obtain ⟨h1, rfl⟩ := at2 n b hb2
    exact ⟨by rw [hlen2]; exact h1, rfl, hz, Nat.zero_le _, fun x hx => (by cases hx), .inl ⟨rfl, rfl, rfl⟩⟩
  · obtain ⟨g1, g2, g3⟩ := NilAs.rep (X := fun b => M b ∨ N b) (A := (· < (List.replicate k (some (Blk.els T sz []))).length)) (φ := fun _ => ⟨none, sz, 0⟩) (w := w') (fun n hn => ⟨by rw [hlen2]; exact hn, rfl⟩) hk
    cases hfz with
    | tup k1 k2 =>
      refine .tup (by omega) fun i u c hu hc => ?_
      have hi : i < rs.length := by rw [g1]; exact (List.getElem?_eq_some_iff.1 hu).1
      exact g3 i rs[i] u c (by simp [hi]) hu (k2 i rs[i] c (by simp [hi]) hc)
theorem acalls_nil {P : Program} {f : FuncId} {vs rs us : List V} {T sz : Nat} (k : Nat) (h : ACalls P f vs (.tup rs)) (hn : V.namesL vs = []) (hk : NilAs k rs us) (hz : 0 < sz) : MCalls P f vs [] (.tup us) (List.replicate k (some (.els T sz []))) := fun g => acallsG_nil k (h g) hn hk hz
section
variable {X A : Nat → Prop} {φ : Nat → Pl} {w : World}
theorem Rep.nf1 {v : V} {x : Value} (h : Rep X A φ w v x) : Rep X A φ w v.nf1 x := by
  cases h with
  | fz h => exact .fz h.nf1
  | agg a b c => exact .agg a b c
  | tup a b => exact .tup a b
  | fn a b c d => exact .fn a b c d
  | ifc h => exact .ifc h
  | own0 a b => exact .own0 a b
  | own a b c d => exact .own a b c d
  | loc a b => exact .loc a b
  | mp a b => exact .mp a b
theorem Rep.nf {v : V} {x : Value} (h : Rep X A φ w v x) : Rep X A φ w v.nf x := by
  cases h with
  | fz h => exact .fz h.nf
  | @agg vs cs h1 h2 h3 =>
    refine .agg (by simpa using h1) (fun v hv => ?_) fun i x c hx hc => ?_
    · obtain ⟨u, hu, rfl⟩ := List.mem_map.1 hv
      have := h2 u hu
      cases u <;> first | rfl | exact this
    · rw [List.getElem?_map, Option.map_eq_some_iff] at hx
      obtain ⟨u, hu, rfl⟩ := hx
      exact (h3 i u c hu hc).nf1
  | tup a b => exact .tup a b
  | fn a b c d => exact .fn a b c d
  | ifc h => exact .ifc h
  | own0 a b => exact .own0 a b
  | own a b c d => exact .own a b c d
  | loc a b => exact .loc a b
  | mp a b => exact .mp a b
end
theorem MCallsG.nf {P : Program} {g : Glob} {f : FuncId} {args args' : List V} {st : List Blk} {r : V} {st' : List (Option Blk)} (h : MCallsG P g f args' st r st') (e : args.map V.nf = args') : MCallsG P g f args st r st' := fun N M φ w vs hr hl hv => by
  subst e
  refine h N M φ w vs hr (by simpa using hl) fun i x c hx hc => ?_
  rw [List.getElem?_map, Option.map_eq_some_iff] at hx
  obtain ⟨u, hu, rfl⟩ := hx
  exact (hv i u c hu hc).nf
end Go.Proofs.YtepnalbefjicgaaGreatDoor.Abs
end

section
namespace Go.Proofs.YtepnalbefjicgaaGreatDoor.BitsP

/-- The lowest w bits of a number, the highest first. -/
def bitsOf (n : Nat) : Nat → List Nat
  | 0 => []
  | w + 1 => n / 2 ^ w % 2 :: bitsOf n w
theorem bitsOf_len (n w : Nat) : (bitsOf n w).length = w := by
  induction w with
  | zero => rfl
  | succ w ih => simp [bitsOf, ih]
def Bin (l : List Nat) : Prop := ∀ b ∈ l, b < 2
theorem Bin.app {l m : List Nat} (h : Bin l) (k : Bin m) : Bin (l ++ m) := fun b hb => by
  rcases List.mem_append.1 hb with x | x
  · exact h b x
  · exact k b x
theorem Bin.left {l m : List Nat} (h : Bin (l ++ m)) : Bin l := fun b hb => h b (List.mem_append_left _ hb)
theorem Bin.right {l m : List Nat} (h : Bin (l ++ m)) : Bin m := fun b hb => h b (List.mem_append_right _ hb)
theorem bin_nil : Bin [] := fun _ h => by cases h
theorem bitsOf_bin (n w : Nat) : Bin (bitsOf n w) := by
  induction w with
  | zero => exact bin_nil
  | succ w ih => intro b hb; simp only [bitsOf, List.mem_cons] at hb; rcases hb with rfl | hb; omega; exact ih b hb
theorem Bin.getD {l : List Nat} (h : Bin l) (i : Nat) : l.getD i 0 < 2 := by
  rw [List.getD_eq_getElem?_getD]
  rcases hl : l[i]? with _ | b
  · simp
  · exact h b (List.mem_of_getElem? hl)

/-- Byte j of bits. -/
def byteAt (l : List Nat) (j : Nat) : Nat := l.getD (8 * j) 0 * 128 + l.getD (8 * j + 1) 0 * 64 + l.getD (8 * j + 2) 0 * 32 + l.getD (8 * j + 3) 0 * 16 + l.getD (8 * j + 4) 0 * 8 + l.getD (8 * j + 5) 0 * 4 + l.getD (8 * j + 6) 0 * 2 + l.getD (8 * j + 7) 0
def packB (l : List Nat) : List Nat := (List.range ((l.length + 7) / 8)).map (byteAt l)
def packBZ (l : List Nat) : List Nat := (List.range (l.length / 8 + 1)).map (byteAt l)
theorem packB_len (l : List Nat) : (packB l).length = (l.length + 7) / 8 := by simp [packB]
theorem byteAt_lt {l : List Nat} (h : Bin l) (j : Nat) : byteAt l j < 256 := by
  unfold byteAt
  have h0 := h.getD (8 * j); have h1 := h.getD (8 * j + 1); have h2 := h.getD (8 * j + 2); have h3 := h.getD (8 * j + 3)
  have h4 := h.getD (8 * j + 4); have h5 := h.getD (8 * j + 5); have h6 := h.getD (8 * j + 6); have h7 := h.getD (8 * j + 7)
  omega
theorem snoc_ind {p : List Nat → Prop} (h0 : p []) (h1 : ∀ l b, p l → p (l ++ [b])) : ∀ l, p l := fun l => by
  rw [← List.reverse_reverse l]
  induction l.reverse with
  | nil => exact h0
  | cons b m ih => rw [List.reverse_cons]; exact h1 _ _ ih
/-- A number of bits. -/
def num (l : List Nat) : Nat := l.foldl (fun n b => 2 * n + b) 0
theorem num_snoc (l : List Nat) (b : Nat) : num (l ++ [b]) = 2 * num l + b := by unfold num; rw [List.foldl_append]; rfl
theorem num_lt {l : List Nat} (h : Bin l) : num l < 2 ^ l.length := by
  revert h
  refine snoc_ind (p := fun l => Bin l → num l < 2 ^ l.length) (fun _ => by decide) (fun l b ih h => ?_) l
  · have h1 := ih h.left
    have h2 : b < 2 := h b (by simp)
    rw [num_snoc, List.length_append, List.length_singleton, Nat.pow_succ]; omega
theorem num_app (l m : List Nat) : num (l ++ m) = num l * 2 ^ m.length + num m := by
  refine snoc_ind (p := fun m => num (l ++ m) = num l * 2 ^ m.length + num m) (by simp [num]) (fun m b ih => ?_) m
  · rw [← List.append_assoc, num_snoc, num_snoc, ih, List.length_append, List.length_singleton, Nat.pow_succ, Nat.mul_add]; rw [Nat.mul_comm 2 (num l * 2 ^ m.length), Nat.mul_assoc]; omega
theorem num_bitsOf (n w : Nat) : num (bitsOf n w) = n % 2 ^ w := by
  induction w with
  | zero => simp [bitsOf, num, Nat.mod_one]
  | succ w ih =>
    rw [show bitsOf n (w + 1) = [n / 2 ^ w % 2] ++ bitsOf n w from rfl, num_app, ih, bitsOf_len, Nat.pow_succ, Nat.mod_mul]
    simp [num, Nat.mul_comm, Nat.add_comm]

/-- The bits of bytes. -/
def tbits (l : List UInt8) : List Nat := l.flatMap fun c => bitsOf c.toNat 8
theorem tbits_len (l : List UInt8) : (tbits l).length = 8 * l.length := by
  induction l with
  | nil => rfl
  | cons c l ih => rw [tbits, List.flatMap_cons, List.length_append, bitsOf_len, ← tbits, ih, List.length_cons]; omega
theorem tbits_bin (l : List UInt8) : Bin (tbits l) := by
  intro b hb
  simp only [tbits, List.mem_flatMap] at hb
  obtain ⟨c, _, hb⟩ := hb
  exact bitsOf_bin _ _ b hb
theorem bitsOf_at (n w i : Nat) (h : i < w) : (bitsOf n w)[i]? = some (n / 2 ^ (w - 1 - i) % 2) := by
  induction w generalizing i with
  | zero => omega
  | succ w ih =>
    rcases i with _ | i
    · simp [bitsOf]
    · simp only [bitsOf, List.getElem?_cons_succ]
      rw [ih i (by omega), show w + 1 - 1 - (i + 1) = w - 1 - i from by omega]
theorem tbits_at : ∀ (l : List UInt8) (i : Nat) (h : i < 8 * l.length), (tbits l)[i]? = some ((l[i / 8]'(by omega)).toNat / 2 ^ (7 - i % 8) % 2)
  | [], i, h => absurd h (by simp)
  | c :: l, i, h => by
    rw [tbits, List.flatMap_cons, ← tbits]
    by_cases h8 : i < 8
    · rw [List.getElem?_append_left (by rw [bitsOf_len]; exact h8), bitsOf_at _ _ _ h8]
      have e : i / 8 = 0 := by omega
      simp only [e, List.getElem_cons_zero]
      rw [show 8 - 1 - i = 7 - i % 8 from by omega]
    · rw [List.getElem?_append_right (by rw [bitsOf_len]; omega), bitsOf_len, tbits_at l (i - 8) (by simp at h; omega)]
      have e : i / 8 = (i - 8) / 8 + 1 := by omega
      simp only [e, List.getElem_cons_succ]
      rw [show (i - 8) % 8 = i % 8 from by omega]
end Go.Proofs.YtepnalbefjicgaaGreatDoor.BitsP
end

section
namespace Go.Proofs.YtepnalbefjicgaaGreatDoor.SixtyP
open BitsP

def abc : List UInt8 := [65, 66, 67, 68, 69, 70, 71, 72, 73, 74, 75, 76, 77, 78, 79, 80, 81, 82, 83, 84, 85, 86, 87, 88, 89, 90, 97, 98, 99, 100, 101, 102, 103, 104, 105, 106, 107, 108, 109, 110, 111, 112, 113, 114, 115, 116, 117, 118, 119, 120, 121, 122, 48, 49, 50, 51, 52, 53, 54, 55, 56, 57, 45, 95]
def letter (n : Nat) : UInt8 := abc.getD n 0
/-- Letters for bits, six by six; the last ones are filled up with noughts. -/
def enc6 : List Nat → List UInt8
  | a :: b :: c :: d :: e :: f :: r => letter (num [a, b, c, d, e, f]) :: enc6 r
  | [] => []
  | l => [letter (num l * 2 ^ (6 - l.length))]
theorem enc6_step (l : List Nat) (h : l ≠ []) : enc6 l = letter (num (l.take (min 6 l.length)) * 2 ^ (6 - min 6 l.length)) :: enc6 (l.drop (min 6 l.length)) := by
  match l, h with
  | [a], _ => rfl
  | [a, b], _ => rfl
  | [a, b, c], _ => rfl
  | [a, b, c, d], _ => rfl
  | [a, b, c, d, e], _ => rfl
  | a :: b :: c :: d :: e :: f :: r, _ =>
    have e : min 6 (a :: b :: c :: d :: e :: f :: r).length = 6 := by simp
    rw [e]
    simp [enc6]
theorem enc6_len : ∀ (n : Nat) (l : List Nat), l.length ≤ n → (enc6 l).length = (l.length + 5) / 6
  | 0, l, h => by
    obtain rfl : l = [] := List.eq_nil_of_length_eq_zero (by omega)
    rfl
  | n + 1, l, h => by
    by_cases h0 : l = []
    · subst h0; rfl
    · have hl : 0 < l.length := List.length_pos_iff.2 h0
      rw [enc6_step l h0, List.length_cons, enc6_len n _ (by rw [List.length_drop]; omega), List.length_drop]
      omega
/-- Six bits and more. -/
theorem enc6_app (a l : List Nat) (h : a.length = 6) : enc6 (a ++ l) = letter (num a) :: enc6 l := by
  match a, h with
  | [a, b, c, d, e, f], _ => rfl
end Go.Proofs.YtepnalbefjicgaaGreatDoor.SixtyP
end

section
namespace Go.Proofs.YtepnalbefjicgaaGreatDoor.SixtyQ
open BitsP SixtyP

def place (c : UInt8) : Nat := abc.idxOf c
theorem place_letter (n : Nat) (h : n < 64) : place (letter n) = n := by
  have key : ∀ m : Fin 64, place (letter m.val) = m.val := by decide +kernel
  exact key ⟨n, h⟩
def known (t : List UInt8) : Bool := t.all fun c => decide (place c < 64)
def dbits (t : List UInt8) : List Nat := t.flatMap fun c => bitsOf (place c) 6
theorem dbits_cons (c : UInt8) (t : List UInt8) : dbits (c :: t) = bitsOf (place c) 6 ++ dbits t := rfl
/-- Six bits' number, and back. -/
theorem bits_num (l : List Nat) (h : Bin l) : bitsOf (num l) l.length = l := by
  revert h
  refine snoc_ind (p := fun l => Bin l → bitsOf (num l) l.length = l) (fun _ => rfl) (fun l b ih h => ?_) l
  have h1 := ih h.left
  have h2 : b < 2 := h b (by simp)
  have key : ∀ (w n b : Nat), b < 2 → bitsOf (2 * n + b) (w + 1) = bitsOf n w ++ [b] := by
    intro w
    induction w with
    | zero => intro n b hb; simp [bitsOf]; omega
    | succ w ihw =>
      intro n b hb
      rw [bitsOf, ihw n b hb, bitsOf]
      simp only [List.cons_append, List.cons.injEq, and_true]
      rw [Nat.pow_succ, Nat.mul_comm (2 ^ w) 2, ← Nat.div_div_eq_div_mul]
      congr 2; omega
  rw [num_snoc, List.length_append, List.length_singleton, key _ _ _ h2, h1]
def pad6 (l : List Nat) : List Nat := l ++ List.replicate ((6 - l.length % 6) % 6) 0
theorem num_noughts (l : List Nat) (k : Nat) : num (l ++ List.replicate k 0) = num l * 2 ^ k := by
  induction k with
  | zero => simp
  | succ k ih => rw [List.replicate_succ', ← List.append_assoc, num_snoc, ih, Nat.pow_succ]; rw [Nat.add_zero, Nat.mul_comm 2, Nat.mul_assoc]
theorem bin_pad (l : List Nat) (k : Nat) (h : Bin l) : Bin (l ++ List.replicate k 0) := h.app fun b hb => by
  rw [(List.mem_replicate.1 hb).2]; omega
/-- One letter of a few bits. -/
theorem enc6_few (l : List Nat) (h0 : l ≠ []) (h : l.length ≤ 6) : enc6 l = [letter (num (l ++ List.replicate (6 - l.length) 0))] := by
  have hl : 0 < l.length := List.length_pos_iff.2 h0
  rw [enc6_step l h0, Nat.min_eq_right h, List.take_length, List.drop_length, num_noughts]; rfl
theorem dec6 : ∀ (n : Nat) (l : List Nat), l.length ≤ n → Bin l → known (enc6 l) = true ∧ dbits (enc6 l) = pad6 l
  | 0, l, h, hb => by
    obtain rfl : l = [] := List.eq_nil_of_length_eq_zero (by omega)
    exact ⟨rfl, rfl⟩
  | n + 1, l, h, hb => by
    by_cases h0 : l = []
    · subst h0; exact ⟨rfl, rfl⟩
    · have hl : 0 < l.length := List.length_pos_iff.2 h0
      have one : ∀ m : List Nat, Bin m → m.length = 6 → place (letter (num m)) < 64 ∧ bitsOf (place (letter (num m))) 6 = m := fun m hm h6 => by
        have h1 := num_lt hm
        rw [h6] at h1
        have h2 := bits_num m hm
        rw [h6] at h2
        rw [place_letter _ (by simpa using h1)]
        exact ⟨by simpa using h1, h2⟩
      by_cases h6 : l.length < 6
      · have e : (6 - l.length % 6) % 6 = 6 - l.length := by omega
        obtain ⟨o1, o2⟩ := one (l ++ List.replicate (6 - l.length) 0) (bin_pad l _ hb) (by simp; omega)
        rw [enc6_few l h0 (by omega)]
        unfold pad6
        rw [e]
        refine ⟨by simp [known, o1], ?_⟩
        rw [dbits_cons, o2]; simp [dbits]
      · have ht : (l.take 6).length = 6 := by rw [List.length_take]; omega
        have hs : l = l.take 6 ++ l.drop 6 := (List.take_append_drop 6 l).symm
        have e : pad6 l = l.take 6 ++ pad6 (l.drop 6) := by
          unfold pad6
          rw [← List.append_assoc, ← hs, List.length_drop]; congr 2; omega
        have hb' := hb
        rw [hs] at hb'
        obtain ⟨o1, o2⟩ := one (l.take 6) hb'.left ht
        obtain ⟨i1, i2⟩ := dec6 n (l.drop 6) (by rw [List.length_drop]; omega) hb'.right
        have e2 : enc6 l = letter (num (l.take 6)) :: enc6 (l.drop 6) := by
          conv => { lhs; rw [hs, enc6_app _ _ ht] }
        rw [e2, e]
        refine ⟨?_, by rw [dbits_cons, o2, i2]⟩
        unfold known at i1 ⊢
        rw [List.all_cons, i1, decide_eq_true o1]; rfl
/-- What Read says. -/
def readF (t : List UInt8) : List UInt8 × Nat :=
  if known t = false then ([], 1)
  else if t.length % 4 = 1 then ([], 1)
  else if 400 < t.length * 6 / 8 then ([], 2)
  else if num ((dbits t).drop (8 * (t.length * 6 / 8))) ≠ 0 then ([], 1)
  else ((packB ((dbits t).take (8 * (t.length * 6 / 8)))).map UInt8.ofNat, 0)
theorem tbits_app (a b : List UInt8) : tbits (a ++ b) = tbits a ++ tbits b := by simp [tbits]
theorem byteAt_num (l : List Nat) (j : Nat) (h : 8 * j + 8 ≤ l.length) : byteAt l j = num ((l.drop (8 * j)).take 8) := by
  have e : ∀ i, i < 8 → l.getD (8 * j + i) 0 = ((l.drop (8 * j)).take 8).getD i 0 := fun i hi => by
    simp only [List.getD_eq_getElem?_getD]
    rw [List.getElem?_take_of_lt hi, List.getElem?_drop]
  have hl : ((l.drop (8 * j)).take 8).length = 8 := by rw [List.length_take, List.length_drop]; omega
  unfold byteAt
  rw [show 8 * j = 8 * j + 0 from rfl, e 0 (by omega), Nat.add_zero, e 1 (by omega), e 2 (by omega), e 3 (by omega), e 4 (by omega), e 5 (by omega), e 6 (by omega), e 7 (by omega)]
  generalize (l.drop (8 * j)).take 8 = m at hl
  match m, hl with
  | [a, b, c, d, e, f, g, h], _ => simp [num]; omega
theorem pack_tbits (s : List UInt8) : (packB (tbits s)).map UInt8.ofNat = s := by
  have hl := tbits_len s
  apply List.ext_getElem
  · simp [packB_len, hl]; omega
  · intro i h1 h2
    have h3 : (tbits s).drop (8 * i) = tbits (s.drop i) := by
      conv => { lhs; rw [← List.take_append_drop i s, tbits_app] }
      rw [List.drop_left' (by rw [tbits_len, List.length_take]; omega)]
    simp only [packB, List.getElem_map, List.getElem_range]
    rw [byteAt_num _ _ (by omega), h3, List.drop_eq_getElem_cons h2]
    have h4 : tbits (s[i] :: s.drop (i + 1)) = bitsOf s[i].toNat 8 ++ tbits (s.drop (i + 1)) := rfl
    rw [h4, List.take_left' (bitsOf_len _ _), num_bitsOf, Nat.mod_eq_of_lt (by simpa using s[i].toNat_lt)]
    simp
/-- What is written is read as it was. -/
theorem read_write (s : List UInt8) (h : s.length ≤ 400) : readF (enc6 (tbits s)) = (s, 0) ∧ (enc6 (tbits s)).length = (8 * s.length + 5) / 6 := by
  have hl := tbits_len s
  have hel := enc6_len _ (tbits s) (Nat.le_refl _)
  rw [hl] at hel
  obtain ⟨k, d⟩ := dec6 _ (tbits s) (Nat.le_refl _) (tbits_bin s)
  refine ⟨?_, hel⟩
  unfold readF
  rw [k, d, hel]
  have e : (8 * s.length + 5) / 6 * 6 / 8 = s.length := by omega
  rw [e, if_neg (by decide), if_neg (by omega), if_neg (by omega)]
  unfold pad6
  rw [List.drop_left' (by omega), List.take_left' (by omega), pack_tbits, if_neg]
  have := num_noughts [] ((6 - (tbits s).length % 6) % 6)
  simp [num] at this
  simp [num, this]
/-! What Read looks at: the whole bytes, and what is left. -/
end Go.Proofs.YtepnalbefjicgaaGreatDoor.SixtyQ
end
