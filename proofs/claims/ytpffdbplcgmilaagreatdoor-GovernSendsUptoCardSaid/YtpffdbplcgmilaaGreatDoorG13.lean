/- Texts of the proof, joined: Rdy, GrantP, PolP, JarB, Eld, JarC, JarR, GoesW, SufP. -/
import Derived.Test.YtpffdbplcgmilaaGreatDoorG11
import Derived.Test.YtpffdbplcgmilaaGreatDoorG10
import Derived.Test.YtpffdbplcgmilaaGreatDoorG12
import Derived.Test.YtpffdbplcgmilaaGreatDoorG9
import Derived.Recover
import Derived.Test.YtpffdbplcgmilaaGreatDoorG7
section
namespace Go.Proofs.YtpffdbplcgmilaaGreatDoor.Rdy
open Go.RowKit Mem Abs TreeW HostP HostO HostA HostB HostC HostD PathT WordP WordS Rune JarP JarQ JarA

def hostOk (l : List UInt8) : Bool := decide (canonF l = (l, 0))
def badI (c : Int) : Bool := (decide (c < 32) && !decide (c = 9)) || decide (c = 127)
def badB (b : UInt8) : Bool := badI (b.toNat : Int)
def letF (s : List UInt8) : Bool := s.all fun b => !badB b
theorem hostOk_eq (l : List UInt8) : hostOk l = (decide ((canonF l).2 = 0) && decide ((canonF l).1 = l)) := by
  unfold hostOk
  obtain ⟨a, b⟩ := canonF l
  simp [Bool.and_comm, Prod.mk.injEq, Bool.decide_and]
set_option maxRecDepth 100000 in
set_option maxHeartbeats 4000000 in
theorem host_v {l : List UInt8} : ACalls Tryz.prog 53 [strT l] (.bool (hostOk l)) := by
  have c1 := canon_v (l := l)
  rw [hostOk_eq]
  generalize canonF l = p at *
  obtain ⟨h, n⟩ := p
  dsimp only [pairT] at c1
  refine fun1 tb_ok Tryz.func53 rfl Tryz.ntmps53 Tryz.results53 rfl fun N => ?_
  by_cases h0 : n = 0
  · subst h0
    by_cases h1 : h = l
    · subst h1
      repeat' (first | refine zt ?_ | (refine isR ?_; first | refine zo ?_ | refine zk c1 ?_ | refine zc5 ?_ | (refine zs5 ?_ ?_ <;> intro hc)) | refine awp_split rfl (fun hb => ?_) (fun hb => ?_) | refine zr ?_ | exact x_le)
      simp; rfl
    · skip
      repeat' (first | refine zt ?_ | (refine isR ?_; first | refine zo ?_ | refine zk c1 ?_ | refine zc5 ?_ | (refine zs5 ?_ ?_ <;> intro hc)) | refine awp_split rfl (fun hb => ?_) (fun hb => ?_) | refine zr ?_ | exact x_le)
      simp [h1]; rfl
  · skip
    repeat' (first | refine zt ?_ | (refine isR ?_; first | refine zo ?_ | refine zk c1 ?_ | refine zc5 ?_ | (refine zs5 ?_ ?_ <;> intro hc)) | refine awp_split rfl (fun hb => ?_) (fun hb => ?_) | refine zr ?_ | exact x_le)
    simp [h0]; rfl
set_option maxRecDepth 100000 in
set_option maxHeartbeats 4000000 in
theorem let1_v {c : Int} : ACalls Tryz.prog 95 [.int .i32 c] (.bool (badI c)) := by
  refine fun1 tb_ok Tryz.func95 rfl Tryz.ntmps95 Tryz.results95 rfl fun N => ?_
  unfold badI
  repeat' (first | refine zt ?_ | (refine isR ?_; first | refine zo ?_ | refine zc1 ?_ | refine zc5 ?_ | refine zc6 ?_ | (refine zs1 ?_ ?_ <;> intro hc) | (refine zs5 ?_ ?_ <;> intro hc) | (refine zs6 ?_ ?_ <;> intro hc)) | refine awp_split rfl (fun hb => ?_) (fun hb => ?_) | refine zr ?_ | exact x_le)
  all_goals (show V.bool _ = V.bool _; first | (simp [*]; done) | (simp [*]; omega))
set_option maxRecDepth 100000 in
set_option maxHeartbeats 4000000 in
theorem idx_v {s : List UInt8} : ACalls Tryz.prog 120 [strT s, .fn (.func 95) [] [], .bool true] (.int .i64 (firstI badB s)) := ACalls.lim fun hl => by
  have hlim := (TreeW.str_lim hl).1
  refine fun3 tb_ok Tryz.func120 rfl Tryz.ntmps120 Tryz.results120 rfl fun N => ?_
  repeat' (first | refine zt ?_ | (refine isR ?_; first | refine zo ?_ | refine x_range tb_ok ?_ | refine zc5 ?_ | (refine zs5 ?_ ?_ <;> intro hc)) | refine awp_split rfl (fun hb => ?_) (fun hb => ?_) | refine zr ?_ | exact x_le)
  refine awp_while (fun k => ⟨[(0, strT s), (1, .fn (.func 95) [] []), (2, .bool true), (10, .loc 0 0 0)], [(0, some (.sit (str s) k))], 1, 21⟩) (fun k => k ≤ s.length ∧ ∀ j y, j < k → s[j]? = some y → badB y = false) (fun k => s.length - k) 0 (by exact x_le) ⟨Nat.zero_le _, fun j y h => absurd h (Nat.not_lt_zero _)⟩ ?_
  intro k ⟨hk, hp⟩
  have hsz : (str s).size = s.length := str_size s
  by_cases hk2 : k < s.length
  · obtain ⟨c, wd, hdec, h1, h2, h3, hcase⟩ := rune_at s k hk2
    have hps : k < (str s).size := by rw [hsz]; exact hk2
    have hw : k + wd ≤ SLIM := by simp only [SLIM]; omega
    have c1 := let1_v (c := (c : Int))
    rcases hcase with ⟨b, g1, g2, g3, g4⟩ | ⟨g1, g2⟩
    · cases hb : badI (c : Int) with
      | true =>
        rw [hb] at c1
        repeat' (first | refine zt ?_ | (refine isR ?_; first | refine zo ?_ | refine x_next _ _ ?_ | refine x_callv (c1 _) ?_ | refine x_callv (c1) ?_ | refine zc5 ?_ | (refine zs5 ?_ ?_ <;> intro hc)) | refine awp_split rfl (fun hb => ?_) (fun hb => ?_) | refine zr ?_ | exact x_le)
        show V.int .i64 _ = V.int .i64 _
        rw [firstI_at hp g1 (by unfold badB; rw [← g3]; exact hb)]
      | false =>
        rw [hb] at c1
        repeat' (first | refine zt ?_ | (refine isR ?_; first | refine zo ?_ | refine x_next _ _ ?_ | refine x_callv (c1 _) ?_ | refine x_callv (c1) ?_ | refine zc5 ?_ | (refine zs5 ?_ ?_ <;> intro hc)) | refine awp_split rfl (fun hb => ?_) (fun hb => ?_) | refine zr ?_ | exact x_le)
        refine ⟨k + wd, ⟨h2, fun j y hj hy => ?_⟩, by omega, (by exact x_le)⟩
        by_cases e : j < k
        · exact hp j y e hy
        · obtain rfl : j = k := by omega
          rw [g1] at hy; cases hy
          unfold badB; rw [← g3]; exact hb
    · have hb : badI (c : Int) = false := by
        unfold badI
        rw [decide_eq_false (by omega), decide_eq_false (by omega), decide_eq_false (by omega)]; rfl
      rw [hb] at c1
      repeat' (first | refine zt ?_ | (refine isR ?_; first | refine zo ?_ | refine x_next _ _ ?_ | refine x_callv (c1 _) ?_ | refine x_callv (c1) ?_ | refine zc5 ?_ | (refine zs5 ?_ ?_ <;> intro hc)) | refine awp_split rfl (fun hb => ?_) (fun hb => ?_) | refine zr ?_ | exact x_le)
      refine ⟨k + wd, ⟨h2, fun j y hj hy => ?_⟩, by omega, (by exact x_le)⟩
      by_cases e : j < k
      · exact hp j y e hy
      · obtain ⟨b, f1, f2⟩ := g2 j (by omega) (by omega)
        rw [f1] at hy; cases hy
        unfold badB badI
        rw [decide_eq_false (by omega), decide_eq_false (by omega), decide_eq_false (by omega)]; rfl
  · have hps : ¬ k < (str s).size := by rw [hsz]; exact hk2
    repeat' (first | refine zt ?_ | (refine isR ?_; first | refine zo ?_ | refine x_nextE ?_ | refine zc5 ?_ | (refine zs5 ?_ ?_ <;> intro hc)) | refine awp_split rfl (fun hb => ?_) (fun hb => ?_) | refine zr ?_ | exact x_le)
    show V.int .i64 _ = V.int .i64 _
    rw [firstI_none fun x hx => ?_]
    obtain ⟨i, hi⟩ := List.mem_iff_getElem?.1 hx
    exact hp i x (by have := (List.getElem?_eq_some_iff.1 hi).1; omega) hi
set_option maxRecDepth 100000 in
set_option maxHeartbeats 4000000 in
theorem index_v {s : List UInt8} : ACalls Tryz.prog 94 [strT s, .fn (.func 95) [] []] (.int .i64 (firstI badB s)) := by
  have c1 := idx_v (s := s)
  refine fun2 tb_ok Tryz.func94 rfl Tryz.ntmps94 Tryz.results94 rfl fun N => ?_
  repeat' (first | refine zt ?_ | (refine isR ?_; first | refine zo ?_ | refine zk c1 ?_) | refine awp_split rfl (fun hb => ?_) (fun hb => ?_) | refine zr ?_ | exact x_le)
  rfl
theorem first_let (s : List UInt8) : letF s = decide (firstI badB s < 0) := by
  have h := firstI_ge (p := badB) (l := s)
  have e : letF s = !s.any badB := by unfold letF; rw [List.not_any_eq_all_not]
  rw [e]
  cases ha : s.any badB with
  | true => rw [ha] at h; rw [decide_eq_false (by have := h.2 rfl; omega)]; rfl
  | false =>
    have : ¬ (0 ≤ firstI badB s) := fun g => by rw [h.1 g] at ha; cases ha
    rw [decide_eq_true (by omega)]; rfl
set_option maxRecDepth 100000 in
set_option maxHeartbeats 4000000 in
theorem let_v {s : List UInt8} : ACalls Tryz.prog 55 [strT s] (.bool (letF s)) := by
  have c1 := index_v (s := s)
  rw [first_let]
  generalize firstI badB s = n at *
  refine fun1 tb_ok Tryz.func55 rfl Tryz.ntmps55 Tryz.results55 rfl fun N => ?_
  repeat' (first | refine zt ?_ | (refine isR ?_; first | refine zo ?_ | refine zk c1 ?_ | refine zc1 ?_ | (refine zs1 ?_ ?_ <;> intro hc)) | refine awp_split rfl (fun hb => ?_) (fun hb => ?_) | refine zr ?_ | exact x_le)
  all_goals (show V.bool _ = V.bool _; simp [*])
set_option maxRecDepth 100000 in
set_option maxHeartbeats 4000000 in
theorem contains_v {s : List UInt8} {c : UInt8} : ACalls Tryz.prog 56 [strT s, strT [c]] (.bool (s.contains c)) := fun g N w vs hG hN hlen hv => by
  obtain ⟨vs⟩ := vs
  match vs, hlen with
  | [x0, x1], _ =>
    obtain ⟨rfl, h0⟩ := fz_str (hv 0 _ x0 rfl rfl)
    obtain ⟨rfl, _⟩ := fz_str (hv 1 _ x1 rfl rfl)
    refine (Tryz.strings_Contains_one (str s) c w).mono fun e w' ⟨h1, h2⟩ => ⟨_, h1, h2 ▸ Below.refl _ _, ?_⟩
    rw [str_toList, index_ge]
    exact .bool
def readyF (f : From) (now : Int) : Int := if hostOk f.host = true ∧ pre f.path [47] = true ∧ letF f.path = true ∧ f.path.contains 59 = false ∧ f.path.length ≤ 400 then (if isJ now then 0 else 3) else 1
set_option maxRecDepth 100000 in
set_option maxHeartbeats 4000000 in
theorem ready_v {f : From} {now : Int} : ACalls Tryz.prog 20 [f.v, .int .i64 now] (.int .i64 (readyF f now)) := by
  have c1 := host_v (l := f.host)
  have c2 := hasPrefix_v (l := f.path) (m := [47])
  have c3 := let_v (s := f.path)
  have c4 := contains_v (s := f.path) (c := 59)
  have c5 := is_v (n := now)
  unfold readyF
  obtain ⟨f1, f2, f3, f4, f5⟩ := f
  dsimp only at *
  generalize hostOk f1 = x1 at *
  generalize pre f2 [47] = x2 at *
  generalize letF f2 = x3 at *
  generalize f2.contains 59 = x4 at *
  generalize isJ now = x5 at *
  show ACalls _ _ [.agg [strT f1, strT f2, .bool f3, .bool f4, .bool f5], .int .i64 now] _
  have z : ∀ {p : Prop} [Decidable p] {a b : Int}, ¬ p → (if p then a else b) = b := fun h => if_neg h
  cases x1
  · rw [z (by simp)]
    refine fun2 tb_ok Tryz.func20 rfl Tryz.ntmps20 Tryz.results20 rfl fun N => ?_
    repeat' (first | refine zt ?_ | (refine isR ?_; first | refine zo ?_ | refine zk c1 ?_ | refine zL ?_ | refine zc3 ?_ | (refine zs3 ?_ ?_ <;> intro hc)) | refine awp_split rfl (fun hb => ?_) (fun hb => ?_) | refine zr ?_ | exact x_le)
    rfl
  cases x2
  · rw [z (by simp)]
    refine fun2 tb_ok Tryz.func20 rfl Tryz.ntmps20 Tryz.results20 rfl fun N => ?_
    repeat' (first | refine zt ?_ | (refine isR ?_; first | refine zo ?_ | refine zk c1 ?_ | refine zk c2 ?_ | refine zL ?_ | refine zc3 ?_ | (refine zs3 ?_ ?_ <;> intro hc)) | refine awp_split rfl (fun hb => ?_) (fun hb => ?_) | refine zr ?_ | exact x_le)
    rfl
  cases x3
  · rw [z (by simp)]
    refine fun2 tb_ok Tryz.func20 rfl Tryz.ntmps20 Tryz.results20 rfl fun N => ?_
    repeat' (first | refine zt ?_ | (refine isR ?_; first | refine zo ?_ | refine zk c1 ?_ | refine zk c2 ?_ | refine zk c3 ?_ | refine zL ?_ | refine zc3 ?_ | (refine zs3 ?_ ?_ <;> intro hc)) | refine awp_split rfl (fun hb => ?_) (fun hb => ?_) | refine zr ?_ | exact x_le)
    rfl
  cases x4
  · by_cases h : f2.length ≤ 400
    · rw [if_pos ⟨rfl, rfl, rfl, rfl, h⟩]
      cases x5
      · skip
        refine fun2 tb_ok Tryz.func20 rfl Tryz.ntmps20 Tryz.results20 rfl fun N => ?_
        repeat' (first | refine zt ?_ | (refine isR ?_; first | refine zo ?_ | refine zk c1 ?_ | refine zk c2 ?_ | refine zk c3 ?_ | refine zk c4 ?_ | refine zk c5 ?_ | refine zL ?_ | refine zc3 ?_ | (refine zs3 ?_ ?_ <;> intro hc)) | refine awp_split rfl (fun hb => ?_) (fun hb => ?_) | refine zr ?_ | exact x_le)
        rfl
      · skip
        refine fun2 tb_ok Tryz.func20 rfl Tryz.ntmps20 Tryz.results20 rfl fun N => ?_
        repeat' (first | refine zt ?_ | (refine isR ?_; first | refine zo ?_ | refine zk c1 ?_ | refine zk c2 ?_ | refine zk c3 ?_ | refine zk c4 ?_ | refine zk c5 ?_ | refine zL ?_ | refine zc3 ?_ | (refine zs3 ?_ ?_ <;> intro hc)) | refine awp_split rfl (fun hb => ?_) (fun hb => ?_) | refine zr ?_ | exact x_le)
        rfl
    · rw [z (by simp [h])]
      refine fun2 tb_ok Tryz.func20 rfl Tryz.ntmps20 Tryz.results20 rfl fun N => ?_
      repeat' (first | refine zt ?_ | (refine isR ?_; first | refine zo ?_ | refine zk c1 ?_ | refine zk c2 ?_ | refine zk c3 ?_ | refine zk c4 ?_ | refine zL ?_ | refine zc3 ?_ | (refine zs3 ?_ ?_ <;> intro hc)) | refine awp_split rfl (fun hb => ?_) (fun hb => ?_) | refine zr ?_ | exact x_le)
      rfl
  · rw [z (by simp)]
    refine fun2 tb_ok Tryz.func20 rfl Tryz.ntmps20 Tryz.results20 rfl fun N => ?_
    repeat' (first | refine zt ?_ | (refine isR ?_; first | refine zo ?_ | refine zk c1 ?_ | refine zk c2 ?_ | refine zk c3 ?_ | refine zk c4 ?_ | refine zL ?_ | refine zc3 ?_ | (refine zs3 ?_ ?_ <;> intro hc)) | refine awp_split rfl (fun hb => ?_) (fun hb => ?_) | refine zr ?_ | exact x_le)
    rfl
end Go.Proofs.YtpffdbplcgmilaaGreatDoor.Rdy
end

section
namespace Go.Proofs.YtpffdbplcgmilaaGreatDoor.GrantP
open Scan

def codeV (V : List Int) (i : Nat) : Nat := if V.getD i 0 < 1 ∨ 40 < V.getD i 0 then 3 else if 0 < i ∧ V.getD i 0 ≤ V.getD (i - 1) 0 then 4 else 0
def codeG (g : Int) : Nat := if g < 0 ∨ 68719476735 < g then 3 else 0
def check (g : Int) (V : List Int) : Nat := if codeG g = 0 then scan (codeV V) V.length else 3
theorem codeV_zero {V : List Int} {i : Nat} : codeV V i = 0 ↔ (1 ≤ V.getD i 0 ∧ V.getD i 0 ≤ 40) ∧ (0 < i → V.getD (i - 1) 0 < V.getD i 0) := by
  unfold codeV
  split
  · constructor
    · intro h; cases h
    · intro h; omega
  · split
    · constructor
      · intro h; cases h
      · intro h; omega
    · constructor
      · intro _; omega
      · intro _; rfl
/-- Right vendors: rising, from 1 to 40. -/
def Right (V : List Int) : Prop := V.Pairwise (· < ·) ∧ ∀ v ∈ V, 1 ≤ v ∧ v ≤ 40
theorem right_of {V : List Int} (h : scan (codeV V) V.length = 0) : Right V := by
  have ha := scan_zero.1 h
  have step : ∀ i, i + 1 < V.length → V.getD i 0 < V.getD (i + 1) 0 := fun i hi => (codeV_zero.1 (ha (i + 1) hi)).2 (by omega)
  have lt : ∀ d i, i + d + 1 < V.length → V.getD i 0 < V.getD (i + d + 1) 0 := by
    intro d
    induction d with
    | zero => intro i hi; exact step i hi
    | succ d ih => intro i hi; exact Int.lt_trans (ih i (by omega)) (step (i + d + 1) hi)
  have at' : ∀ i (hi : i < V.length), V.getD i 0 = V[i] := fun i hi => by rw [List.getD_eq_getElem?_getD, List.getElem?_eq_getElem hi]; rfl
  refine ⟨List.pairwise_iff_getElem.2 fun i j hi hj hij => ?_, fun v hv => ?_⟩
  · have := lt (j - i - 1) i (by omega)
    rw [show i + (j - i - 1) + 1 = j from by omega, at' i hi, at' j hj] at this
    exact this
  · obtain ⟨i, hi, rfl⟩ := List.mem_iff_getElem.1 hv
    have := (codeV_zero.1 (ha i hi)).1
    rwa [at' i hi] at this
theorem of_right {V : List Int} (h : Right V) : scan (codeV V) V.length = 0 := by
  have at' : ∀ i (hi : i < V.length), V.getD i 0 = V[i] := fun i hi => by rw [List.getD_eq_getElem?_getD, List.getElem?_eq_getElem hi]; rfl
  refine scan_zero.2 fun i hi => codeV_zero.2 ⟨?_, fun h0 => ?_⟩
  · rw [at' i hi]; exact h.2 _ (List.getElem_mem hi)
  · rw [at' i hi, at' (i - 1) (by omega)]
    exact List.pairwise_iff_getElem.1 h.1 (i - 1) i (by omega) hi (by omega)
def nums : List Int := (List.range 40).map fun i : Nat => (i : Int) + 1
def upto (f : Int → Bool) : List Int := nums.filter f
def mayP (P : Nat → Bool) (p : Int) : Bool := p == 0 || (decide (1 ≤ p) && decide (p ≤ 10) && P (p - 1).toNat)
def mayV (V : List Int) (v : Int) : Bool := v == 0 || V.contains v
def may (P : Nat → Bool) (V : List Int) (p v : Int) : Bool := mayP P p && mayV V v
def lessP (P Q : Nat → Bool) : Bool := (List.range 10).all fun i => !P i || Q i
def less (P Q : Nat → Bool) (V U : List Int) : Bool := lessP P Q && V.all (U.contains ·)
def same10 (P Q : Nat → Bool) : Bool := (List.range 10).all fun i => P i == Q i
/-- As far as i purposes were looked at. -/
def mayTo (P : Nat → Bool) (p : Int) (i : Nat) : Bool := p == 0 || (decide (1 ≤ p) && decide (p ≤ i) && P (p - 1).toNat)
end Go.Proofs.YtpffdbplcgmilaaGreatDoor.GrantP
end

section
namespace Go.Proofs.YtpffdbplcgmilaaGreatDoor.PolP
open Abs HostP PathT Rdy JarP

abbrev Pol := Policy
abbrev capsL (C : Nat → Int) : List Int := [C 0, C 1, C 2, C 3, C 4, C 5, C 6, C 7, C 8, C 9, C 10]
abbrev polV (p : Pol) : Abs.V := Policy.v p
def purp (n : Int) : Bool := decide (0 ≤ n) && decide (n ≤ 10)
def codeR (r : Rule) : Nat := if r.kind < 1 ∨ 4 < r.kind then 7 else if r.text = [] ∨ 400 < r.text.length ∨ (r.kind = 4 ∧ hostOk r.text = false) then 1 else if purp r.purpose = false ∨ r.vendor < 0 ∨ 40 < r.vendor then 3 else 0
def codeRs : List Rule → Nat
  | [] => 0
  | r :: l => if codeR r = 0 then codeRs l else codeR r
def badC (n : Int) : Bool := decide (n < 1) || decide (1000000000 < n)
def badCs (C : Nat → Int) : Bool := (capsL C).any badC
def checkP (p : Pol) : Nat := if 12 < p.rules.length then 2 else if codeRs p.rules ≠ 0 then codeRs p.rules else if purp p.dflt = false ∨ badCs p.caps = true then 3 else 0
structure OkR (r : Rule) : Prop where
  kind : 1 ≤ r.kind ∧ r.kind ≤ 4
  text : r.text.length ≤ 400
  purp : 0 ≤ r.purpose ∧ r.purpose ≤ 10
theorem purp_iff {n : Int} : purp n = true ↔ 0 ≤ n ∧ n ≤ 10 := by unfold purp; simp
theorem codeR_zero {r : Rule} (h : codeR r = 0) : OkR r := by
  unfold codeR at h
  split at h
  · cases h
  · split at h
    · cases h
    · split at h
      · cases h
      · rename_i h1 h2 h3
        exact ⟨by omega, Nat.le_of_not_lt fun h => h2 (.inr (.inl h)), purp_iff.1 (by
          cases hp : purp r.purpose with
          | true => rfl
          | false => exact absurd (.inl hp) h3)⟩
theorem codeRs_zero : ∀ {l : List Rule}, codeRs l = 0 → ∀ r ∈ l, OkR r
  | [], _, r, hr => by cases hr
  | a :: l, h, r, hr => by
    rw [codeRs] at h
    split at h
    · rename_i h0
      rcases List.mem_cons.1 hr with rfl | hr
      · exact codeR_zero h0
      · exact codeRs_zero h r hr
    · rename_i h0; exact absurd h h0
structure OkP (p : Pol) : Prop where
  len : p.rules.length ≤ 12
  rules : ∀ r ∈ p.rules, OkR r
  dflt : 0 ≤ p.dflt ∧ p.dflt ≤ 10
  caps : ∀ i, i ≤ 10 → 1 ≤ p.caps i ∧ p.caps i ≤ 1000000000
theorem check_ok {p : Pol} (h : checkP p = 0) : OkP p := by
  unfold checkP at h
  split at h
  · cases h
  · split at h
    · rename_i h1 h2; exact absurd h h2
    · split at h
      · cases h
      · rename_i h1 h2 h3
        refine ⟨by omega, codeRs_zero (by simpa using h2), purp_iff.1 (by
          cases hp : purp p.dflt with
          | true => rfl
          | false => exact absurd (.inl hp) h3), fun i hi => ?_⟩
        have hb : badCs p.caps = false := by
          cases hp : badCs p.caps with
          | false => rfl
          | true => exact absurd (.inr hp) h3
        have hm : p.caps i ∈ capsL p.caps := by
          have : i = 0 ∨ i = 1 ∨ i = 2 ∨ i = 3 ∨ i = 4 ∨ i = 5 ∨ i = 6 ∨ i = 7 ∨ i = 8 ∨ i = 9 ∨ i = 10 := by omega
          rcases this with rfl | rfl | rfl | rfl | rfl | rfl | rfl | rfl | rfl | rfl | rfl <;> simp [capsL]
        have := List.any_eq_false.1 hb _ hm
        unfold badC at this
        simp at this
        omega
/-- Is the cookie named by the rule? -/
def namesF (r : Rule) (c : Cookie) : Bool := if r.kind = 1 then decide (c.name = r.text) else if r.kind = 2 then pre c.name r.text else if r.kind = 3 then endsB c.name r.text else matchF c.domain r.text
def kindF (p : Pol) (c : Cookie) : Int × Int := match p.rules.find? (fun r => namesF r c) with
  | some r => (r.purpose, r.vendor)
  | none => (p.dflt, 0)
theorem kind_ok {p : Pol} (h : OkP p) (c : Cookie) : 0 ≤ (kindF p c).1 ∧ (kindF p c).1 ≤ 10 := by
  unfold kindF
  cases hf : p.rules.find? (fun r => namesF r c) with
  | none => exact h.dflt
  | some r => exact (h.rules r (List.mem_of_find?_eq_some hf)).purp
def mayF (P : Nat → Bool) (U : List Int) (k v : Int) : Bool := (decide (k = 0) || (purp k && P (k - 1).toNat)) && (decide (v = 0) || U.contains v)
def afterF (n s : Int) : Int := n + if s < 253402300799 - n then s else 253402300799 - n
def capF (p : Pol) (c : Cookie) : Int := afterF c.created (p.caps (kindF p c).1.toNat)
def clampF (p : Pol) (c : Cookie) : Cookie := { c with expiry := if capF p c < c.expiry then capF p c else c.expiry }
def letsF (p : Pol) (P : Nat → Bool) (U : List Int) (c : Cookie) : Bool := mayF P U (kindF p c).1 (kindF p c).2
def keptF (p : Pol) (P : Nat → Bool) (U : List Int) (now : Int) (L : List Cookie) : List Cookie := L.flatMap fun c => if letsF p P U c = true ∧ now < (clampF p c).expiry then [clampF p c] else []
theorem kept_on {p : Pol} {P : Nat → Bool} {U : List Int} {now : Int} (L : List Cookie) {k : Nat} {c : Cookie} (h : L[k]? = some c) : keptF p P U now (L.take (k + 1)) = keptF p P U now (L.take k) ++ if letsF p P U c = true ∧ now < (clampF p c).expiry then [clampF p c] else [] := by
  unfold keptF
  rw [List.take_add_one, h, List.flatMap_append]
  simp
theorem kept_len {p : Pol} {P : Nat → Bool} {U : List Int} {now : Int} : ∀ L : List Cookie, (keptF p P U now L).length ≤ L.length
  | [] => Nat.zero_le _
  | c :: L => by
    have ih := kept_len (p := p) (P := P) (U := U) (now := now) L
    have e : keptF p P U now (c :: L) = (if letsF p P U c = true ∧ now < (clampF p c).expiry then [clampF p c] else []) ++ keptF p P U now L := by unfold keptF; rw [List.flatMap_cons]
    rw [e, List.length_append, List.length_cons]
    split
    · rw [List.length_singleton]; omega
    · rw [List.length_nil]; omega
def codeRight (p : Pol) (g : Int) (U : List Int) : Nat := if checkP p ≠ 0 then checkP p else GrantP.check g U
def codePurge (L : List Cookie) (nx : Int) (p : Pol) (g : Int) (U : List Int) (now : Int) : Nat := if checkJ L nx ≠ 0 then checkJ L nx else if codeRight p g U ≠ 0 then codeRight p g U else if isJ now = false then 3 else 0
end Go.Proofs.YtpffdbplcgmilaaGreatDoor.PolP
end

section
namespace Go.Proofs.YtpffdbplcgmilaaGreatDoor.JarB
open Go.RowKit Mem Abs Scan JarP JarQ JarA

abbrev TC : Nat := 48
abbrev nV (n : Nat) : Abs.V := .int .i64 (n : Int)
theorem at_map {α : Type} {f : α → Abs.V} {L : List α} {k : Nat} {x : α} (h : L[k]? = some x) : (L.map f)[k]? = some (f x) := by rw [List.getElem?_map, h]; rfl
def perJ (L : List Cookie) (c : Cookie) (k : Nat) : Nat := (L.take k).countP fun d => decide (d.domain = c.domain)
theorem per_le (L : List Cookie) (c : Cookie) (k : Nat) : perJ L c k ≤ k := Nat.le_trans List.countP_le_length (by rw [List.length_take]; omega)
theorem code_at {L : List Cookie} {nx : Int} {i : Nat} {c : Cookie} (hc : L[i]? = some c) : codeJ L nx i = if badM c = true then 3 else if c.no < 0 ∨ nx ≤ c.no then 4
    else if (L.take i).any (fun d => sameK d c || decide (d.no = c.no)) = true then 6
    else if perJ L c i = 4 then 2 else 0 := by
  unfold codeJ
  rw [hc]
  rfl
end Go.Proofs.YtpffdbplcgmilaaGreatDoor.JarB
end

section
namespace Go.Proofs.YtpffdbplcgmilaaGreatDoor.Abs
open Go.RowKit Mem Facts
section
variable {X A A' : Nat → Prop} {φ φ' : Nat → Pl} {w w' : World} {P : Program} {tb : List Ty} {T : Nat} {e ee e' : Ty} {N : Env} {M : Nat → Prop} {o : Oper} {s : S} {a : Act} {x y : Operand} {el : Nat} {L : List UInt8}
theorem law_eql_arr {y : Operand} {T' : TypeId} {us vs : List V} {r : Bool} {len : Nat} (htb : TbOk P tb) (ho : o.op = .binOp .eql T x y T') (hT : nth tb T = some e) (ha : e.arr = some (len, el)) (hE : nth tb el = some ee) (hc : P.cellsOf el = 1) (hq : P.eqGuardType P.depth T = false) (hok : okI ee.knd us vs (List.range len) = true) (h : eqI us vs (List.range len) = r) :
    OpLaw P N o ⟨[(x, .agg us), (y, .agg vs)], []⟩ (.bool r) [] [] := law_pure fun s M A φ ac w hh hr => by
  obtain ⟨cx, e1, h1, h2, h3⟩ := rep_agg (hr.ev hh.a)
  obtain ⟨cy, e2, g1, g2, g3⟩ := rep_agg (hr.ev hh.b)
  obtain ⟨ti, d, ht⟩ := ty_at htb hT
  obtain ⟨tj, dj, hj⟩ := ty_at htb hE
  have hd : d = .array len el := by
    have := ht.arr
    rw [ha] at this
    cases d <;> simp [arrOf] at this
    rw [this.1, this.2]
  have hu : P.underlying T = some (.array len el) := by rw [ht.und, hd]
  have hrun : (Op.equalIn 10000 T (.agg cx) (.agg cy)).run P w = .ok (eqI us vs (List.range len)) w := by
    rw [run_equalIn_array (P := P) w 9999 cx cy hu hj.info, hc]
    exact run_eqI (w := w) htb hE (Reps.mk' (by simpa using h1) fun j u c hu hc => h3 j u c hu (by simpa using hc)) (Reps.mk' (by simpa using g1) fun j u c hu hc => g3 j u c hu (by simpa using hc)) 9998 _ hok w
  refine ⟨.bool r, ?_, .fz .bool⟩
  unfold execOp
  simp only [ho, e1, e2, Sem.run_bind, run_eqGuard_agg w .eql T x y cx cy hq, Result.andThen_ok, run_eql_struct, hrun, Sem.run_pure, h]
end
section
variable {P : Program} {N : Env} {l r : List Oper} {o : Oper} {tm : List (Nat × V)} {st : List (Nat × Option Blk)} {nx nt : Nat} {tr : List Tr} {K : S → List Tr → Prop} {tb : List Ty} {d T : Nat} {t t' : TypeId} {x y z : Operand} {a b n : Int} {p q : List UInt8} {u v : Bool} {e ee : Ty} {kd : IntKind}
theorem x_stO {α : Type} (f : α → V) {L : List α} {a1 a0 : α} {w : V} {m i0 off el sz : Nat} (j : Nat) (htb : TbOk P tb) (k : ARun P N l K r ⟨tm, (m, some (.els el sz ((L.set j a1).map f))) :: st, nx, nt⟩ (tr ++ [trOf l o ⟨[(x, .loc m i0 off), (y, w)], [(m, .els el sz (L.map f))]⟩ [(m, some (.els el sz ((L.set j a1).map f)))]])) (ho : o.op = .store t x y := by rfl) (hx : S.ev ⟨tm, st, nx, nt⟩ x = some (.loc m i0 off) := by rfl) (hy : S.ev ⟨tm, st, nx, nt⟩ y = some w := by rfl) (hg : guardV l o ⟨tm, st, nx, nt⟩ = some true := by rfl) (hd : o.dst = none := by rfl) (hB : S.blk ⟨tm, st, nx, nt⟩ m = some (.els el sz (L.map f)) := by rfl) (hT' : nth tb t = some e := by rfl) (hi : i0 = j := by omega) (hL : L[j]? = some a0 := by assumption) (h1 : w.cells.all V.one = true := by rfl) (h2 : w.cells.length = e.size := by rfl) (hp : putV (f a0) off w = some (f a1) := by rfl) (hel : (!(f a0).one || Nat.beq w.cells.length 1) = true := by rfl) : ARun P N l K (o :: r) ⟨tm, st, nx, nt⟩ tr := r_set hg hd (law_store htb ho hT' (i := i0) (el := f a0) (by subst hi; rw [List.getElem?_map, hL]; rfl) h1 h2 hp hel (by subst hi; rw [List.map_set])) (hT hx (hT hy (hN hB h0))) k
theorem x_ldO {α : Type} (f : α → V) {L : List α} {a0 : α} {w : V} {m i0 off el sz : Nat} (j : Nat) (htb : TbOk P tb) (k : ARun P N l K r ⟨(d, w) :: tm, st, nx, nt⟩ (tr ++ [trOf l o ⟨[(x, .loc m i0 off)], [(m, .els el sz (L.map f))]⟩ []])) (ho : o.op = .load t x := by rfl) (hx : S.ev ⟨tm, st, nx, nt⟩ x = some (.loc m i0 off) := by rfl) (hg : guardV l o ⟨tm, st, nx, nt⟩ = some true := by rfl) (hd : o.dst = some d := by rfl) (hlt : Nat.blt d nt = true := by rfl) (hB : S.blk ⟨tm, st, nx, nt⟩ m = some (.els el sz (L.map f)) := by rfl) (hT' : nth tb t = some e := by rfl) (hi : i0 = j := by omega) (hL : L[j]? = some a0 := by assumption) (hv : subV (f a0).cells off e.agg e.size = some w := by rfl) : ARun P N l K (o :: r) ⟨tm, st, nx, nt⟩ tr := r_val hg hd hlt (law_load htb ho hT' (i := i0) (el := f a0) (by subst hi; rw [List.getElem?_map, hL]; rfl) hv) (hT hx (hN hB h0)) k
theorem x_eqlR {us vs : List V} {w : Bool} {len el : Nat} (htb : TbOk P tb) (k : ARun P N l K r ⟨(d, .bool w) :: tm, st, nx, nt⟩ (tr ++ [trOf l o ⟨[(x, .agg us), (y, .agg vs)], []⟩ []])) (ho : o.op = .binOp .eql t x y t' := by rfl) (hx : S.ev ⟨tm, st, nx, nt⟩ x = some (.agg us) := by rfl) (hy : S.ev ⟨tm, st, nx, nt⟩ y = some (.agg vs) := by rfl) (hg : guardV l o ⟨tm, st, nx, nt⟩ = some true := by rfl) (hd : o.dst = some d := by rfl) (hlt : Nat.blt d nt = true := by rfl) (hT' : nth tb t = some e := by rfl) (ha : e.arr = some (len, el) := by rfl) (hE : nth tb el = some ee := by rfl) (hc : P.cellsOf el = 1 := by kernel_rfl) (hq : P.eqGuardType P.depth t = false := by kernel_rfl) (hok : okI ee.knd us vs (List.range len) = true := by rfl) (h : eqI us vs (List.range len) = w := by first | assumption | rfl) : ARun P N l K (o :: r) ⟨tm, st, nx, nt⟩ tr := r_val hg hd hlt (law_eql_arr htb ho hT' ha hE hc hq hok h) (hT hx (hT hy h0)) k
end
end Go.Proofs.YtpffdbplcgmilaaGreatDoor.Abs
namespace Go.Proofs.YtpffdbplcgmilaaGreatDoor.Abs
open Go.RowKit Mem Facts
section
variable {P : Program} {N : Env} {c : Code} {Q : Exit → S → Prop}
/-- The row n of one's own is no more than what slot t holds: a frozen slice. -/
theorem awp_freeze {α : Type} {f : α → V} {L : List α} {tm : List (Nat × V)} {st : List (Nat × Option Blk)} {nx nt T sz m : Nat} (n t : Nat) (hm : m = L.length) (hf : ∀ a, (f a).names = []) (k : AWp P N c Q ⟨(t, .fro (L.map f)) :: tm, (n, none) :: st, nx, nt⟩)
    (hB : S.blk ⟨tm, st, nx, nt⟩ n = some (.els T sz (L.map f)) := by rfl) (ht : lk tm t = some (.own n 0 m) := by rfl) : AWp P N c Q ⟨tm, st, nx, nt⟩ := fun M φ a w hr => by
  let M' : Nat → Prop := fun b => M b ∧ (φ n).blk ≠ some b
  let M2 : Nat → Prop := fun b => M b ∧ (φ n).blk = some b
  let N2 : Env := ⟨⟨fun b => M' b ∨ N b, N.g⟩, 0, N.pl, N.df⟩
  have hset : ∀ b, (M2 b ∨ N2 b) ↔ (M b ∨ N b) := fun b => by
    show (M b ∧ (φ n).blk = some b) ∨ (M b ∧ (φ n).blk ≠ some b) ∨ N b ↔ _
    by_cases e : (φ n).blk = some b
    · simp [e]
    · simp [e]
  obtain ⟨hn, hbk⟩ := hr.st n _ hB
  have hbl : ∀ q, S.blk ⟨[], [(n, some (.els T sz (L.map f)))], nx, nt⟩ q = if n = q then some (.els T sz (L.map f)) else none := fun q => by
    unfold S.blk
    simp only [lk_put]
    by_cases e : n = q <;> simp [e, lk]
  have r2 : Rel N2 M2 (· < nx) φ ⟨[], [(n, some (.els T sz (L.map f)))], nx, nt⟩ a w := by
    refine ⟨fun q v hq => (by cases hq), hr.nt, fun q b hb => ?_, fun q q' b b' x e1 e2 e3 e4 => ?_, fun b hb => hr.lim b ((hset b).1 hb), fun b h1 h2 => ?_, hr.df, fun q hq => absurd hq (Nat.not_lt_zero q), ?_⟩
    · rw [hbl] at hb
      split at hb
      · rename_i e
        subst e; cases hb
        refine ⟨hn, ?_⟩
        obtain ⟨h1, h2, h3, h4, h5⟩ := hbk
        refine ⟨h1, h2, h3, h4, h5.imp id ?_⟩
        rintro ⟨b, cur, g1, g2, g3, g4, g5, g6, g7⟩
        refine ⟨b, cur, g1, ⟨g2, g1⟩, g3, g4, g5, g6, fun i j x u hx hu => ?_⟩
        obtain ⟨y, hy, hq⟩ := g7 i j x u hx hu
        exact ⟨y, hy, hq.mono (fun b _ h => (hset b).1 h) (.refl _ w) (fun _ h => h) fun _ _ => rfl⟩
      · cases hb
    · rw [hbl] at e1 e2
      split at e1
      · split at e2
        · rename_i h1 h2; exact h1 ▸ h2
        · cases e2
      · cases e1
    · rcases h2 with h2 | h2
      · exact h2.2 h1.2
      · exact hr.dis b h1.1 h2
    · exact hr.gl.sub fun b h => (hset b).1 h
  have hv := (hr.tm t _ ht)
  have hv2 : Rep (fun b => M2 b ∨ N2 b) (· < nx) φ w (.own n 0 m) (a.tmps.getD t undef) := hv.2.mono (fun b _ h => (hset b).1 h) (.refl _ w) (fun _ h => h) fun _ _ => rfl
  have hz : Fz N2 w (.fro (L.map f)) (a.tmps.getD t undef) := by
    refine r2.frz (b := fun q => if n = q then some (.els T sz (L.map f)) else none) (fun q k h => by rw [hbl]; exact h) hv2 ?_ ?_
    · show (match (if n = n then some (Blk.els T sz (L.map f)) else none) with
        | some (.els _ _ xs) => some (V.fro ((xs.drop 0).take m))
        | _ => none) = _
      rw [if_pos rfl]
      simp only [List.drop_zero]
      rw [List.take_of_length_le (by rw [List.length_map, hm]; exact Nat.le_refl _)]
    · show match (if n = n then some (Blk.els T sz (L.map f)) else none) with
        | some (.els _ _ xs) => (∀ x ∈ xs, x.names = []) ∧ 0 + m ≤ xs.length
        | _ => False
      rw [if_pos rfl]
      refine ⟨fun x hx => ?_, by rw [List.length_map, hm]; omega⟩
      obtain ⟨y, _, rfl⟩ := List.mem_map.1 hx
      exact hf y
  have hsub : ∀ b, M' b ∨ N b → M b ∨ N b := fun b h => h.imp (·.1) id
  have hbn : ∀ q, S.blk ⟨(t, .fro (L.map f)) :: tm, (n, none) :: st, nx, nt⟩ q = if n = q then none else S.blk ⟨tm, st, nx, nt⟩ q := fun q => by
    unfold S.blk
    simp only [lk_put]
    by_cases e : n = q <;> simp [e]
  have r3 : Rel N M' (· < nx) φ ⟨(t, .fro (L.map f)) :: tm, (n, none) :: st, nx, nt⟩ a w := by
    refine ⟨fun q v hq => ?_, hr.nt, fun q b hb => ?_, fun q q' b b' x e1 e2 e3 e4 => ?_, fun b hb => hr.lim b (hsub b hb), fun b h1 h2 => hr.dis b h1.1 h2, hr.df, hr.pin, hr.gl.sub hsub⟩
    · change lk ((t, .fro (L.map f)) :: tm) q = some v at hq
      rw [lk_put] at hq
      split at hq
      · rename_i e
        subst e; cases hq
        exact ⟨hv.1, .fz (hz.mono (fun b _ h => h) (.refl _ w))⟩
      · obtain ⟨g1, g2⟩ := hr.tm q v hq
        exact ⟨g1, g2.mono (fun b _ h => hsub b h) (.refl _ w) (fun _ h => h) fun _ _ => rfl⟩
    · rw [hbn] at hb
      split at hb
      · cases hb
      · rename_i hne
        obtain ⟨g1, g2⟩ := hr.st q b hb
        have hdif : ∀ y, (φ q).blk = some y → (φ n).blk ≠ some y := fun y h1 h2 => hne (hr.inj n q _ _ y hB hb h2 h1)
        refine ⟨g1, ?_⟩
        cases b with
        | els T' sz' xs =>
          obtain ⟨h1, h2, h3, h4, h5⟩ := g2
          refine ⟨h1, h2, h3, h4, h5.imp id ?_⟩
          rintro ⟨b, cur, k1, k2, k3, k4, k5, k6, k7⟩
          refine ⟨b, cur, k1, ⟨k2, hdif b k1⟩, k3, k4, k5, k6, fun i j x u hx hu => ?_⟩
          obtain ⟨y, hy, hq⟩ := k7 i j x u hx hu
          exact ⟨y, hy, hq.mono (fun b _ h => hsub b h) (.refl _ w) (fun _ h => h) fun _ _ => rfl⟩
        | map es =>
          obtain ⟨b, ents, clock, k1, k2, k3, k4, k5⟩ := g2
          exact ⟨b, ents, clock, k1, ⟨k2, hdif b k1⟩, k3, k4, fun i k v e hk he => ⟨(k5 i k v e hk he).1.mono (fun b _ h => hsub b h) (.refl _ w), (k5 i k v e hk he).2.mono (fun b _ h => hsub b h) (.refl _ w) (fun _ h => h) fun _ _ => rfl⟩⟩
        | sit s pos =>
          obtain ⟨h0, b, k1, k2, k3⟩ := g2
          exact ⟨h0, b, k1, ⟨k2, hdif b k1⟩, k3⟩
    · rw [hbn] at e1 e2
      split at e1
      · cases e1
      · split at e2
        · cases e2
        · exact hr.inj q q' b b' x e1 e2 e3 e4
  refine wp_mono (k M' φ a w r3) fun e a' w' ⟨M3, φ3, s3, h1, h2, h3, h4⟩ => ⟨M3, φ3, s3, ⟨h1.os, h1.tape, h1.output, h1.size, fun b hb hM => h1.block b hb fun h => hM h.1⟩, fun b hb h => (h2 b hb h).1, h3, h4⟩
/-- The row n that a row's struct holds in its cell i is no more than that: a frozen slice. -/
theorem awp_freezeR {α : Type} {f : α → V} {L : List α} {tm : List (Nat × V)} {st : List (Nat × Option Blk)} {nx nt T sz T2 sz2 m : Nat} {cs cs' : List V} (n2 i n : Nat) (hm : m = L.length) (hf : ∀ a, (f a).names = []) (k : AWp P N c Q ⟨tm, (n2, some (.els T2 sz2 [.agg cs'])) :: (n, none) :: st, nx, nt⟩)
    (hB2 : S.blk ⟨tm, st, nx, nt⟩ n2 = some (.els T2 sz2 [.agg cs]) := by rfl) (hi : nth cs i = some (.own n 0 m) := by rfl) (hcs : cs.set i (.fro (L.map f)) = cs' := by rfl) (hB : S.blk ⟨tm, st, nx, nt⟩ n = some (.els T sz (L.map f)) := by rfl) (hne : Nat.beq n2 n = false := by rfl) : AWp P N c Q ⟨tm, st, nx, nt⟩ := fun M φ a w hr => by
  let M' : Nat → Prop := fun b => M b ∧ (φ n).blk ≠ some b
  let M2 : Nat → Prop := fun b => M b ∧ (φ n).blk = some b
  let N2 : Env := ⟨⟨fun b => M' b ∨ N b, N.g⟩, 0, N.pl, N.df⟩
  have hnn : n2 ≠ n := fun e => by rw [e, Nat.beq_refl] at hne; cases hne
  have hset : ∀ b, (M2 b ∨ N2 b) ↔ (M b ∨ N b) := fun b => by
    show (M b ∧ (φ n).blk = some b) ∨ (M b ∧ (φ n).blk ≠ some b) ∨ N b ↔ _
    by_cases e : (φ n).blk = some b
    · simp [e]
    · simp [e]
  obtain ⟨hn, hbk⟩ := hr.st n _ hB
  have hbl : ∀ q, S.blk ⟨[], [(n, some (.els T sz (L.map f)))], nx, nt⟩ q = if n = q then some (.els T sz (L.map f)) else none := fun q => by
    unfold S.blk
    simp only [lk_put]
    by_cases e : n = q <;> simp [e, lk]
  have r2 : Rel N2 M2 (· < nx) φ ⟨[], [(n, some (.els T sz (L.map f)))], nx, nt⟩ a w := by
    refine ⟨fun q v hq => (by cases hq), hr.nt, fun q b hb => ?_, fun q q' b b' x e1 e2 e3 e4 => ?_, fun b hb => hr.lim b ((hset b).1 hb), fun b h1 h2 => ?_, hr.df, fun q hq => absurd hq (Nat.not_lt_zero q), ?_⟩
    · rw [hbl] at hb
      split at hb
      · rename_i e
        subst e; cases hb
        refine ⟨hn, ?_⟩
        obtain ⟨h1, h2, h3, h4, h5⟩ := hbk
        refine ⟨h1, h2, h3, h4, h5.imp id ?_⟩
        rintro ⟨b, cur, g1, g2, g3, g4, g5, g6, g7⟩
        refine ⟨b, cur, g1, ⟨g2, g1⟩, g3, g4, g5, g6, fun i j x u hx hu => ?_⟩
        obtain ⟨y, hy, hq⟩ := g7 i j x u hx hu
        exact ⟨y, hy, hq.mono (fun b _ h => (hset b).1 h) (.refl _ w) (fun _ h => h) fun _ _ => rfl⟩
      · cases hb
    · rw [hbl] at e1 e2
      split at e1
      · split at e2
        · rename_i h1 h2; exact h1 ▸ h2
        · cases e2
      · cases e1
    · rcases h2 with h2 | h2
      · exact h2.2 h1.2
      · exact hr.dis b h1.1 h2
    · exact hr.gl.sub fun b h => (hset b).1 h
  have hz : ∀ x, Rep (fun b => M b ∨ N b) (· < nx) φ w (.own n 0 m) x → Fz N2 w (.fro (L.map f)) x := fun x hx => by
    have hv2 : Rep (fun b => M2 b ∨ N2 b) (· < nx) φ w (.own n 0 m) x := hx.mono (fun b _ h => (hset b).1 h) (.refl _ w) (fun _ h => h) fun _ _ => rfl
    refine r2.frz (b := fun q => if n = q then some (.els T sz (L.map f)) else none) (fun q k h => by rw [hbl]; exact h) hv2 ?_ ?_
    · show (match (if n = n then some (Blk.els T sz (L.map f)) else none) with
        | some (.els _ _ xs) => some (V.fro ((xs.drop 0).take m))
        | _ => none) = _
      rw [if_pos rfl]
      simp only [List.drop_zero]
      rw [List.take_of_length_le (by rw [List.length_map, hm]; exact Nat.le_refl _)]
    · show match (if n = n then some (Blk.els T sz (L.map f)) else none) with
        | some (.els _ _ xs) => (∀ x ∈ xs, x.names = []) ∧ 0 + m ≤ xs.length
        | _ => False
      rw [if_pos rfl]
      refine ⟨fun x hx => ?_, by rw [List.length_map, hm]; omega⟩
      obtain ⟨y, _, rfl⟩ := List.mem_map.1 hx
      exact hf y
  have hsub : ∀ b, M' b ∨ N b → M b ∨ N b := fun b h => h.imp (·.1) id
  have hbn : ∀ q, S.blk ⟨tm, (n2, some (.els T2 sz2 [.agg cs'])) :: (n, none) :: st, nx, nt⟩ q = if n2 = q then some (.els T2 sz2 [.agg cs']) else if n = q then none else S.blk ⟨tm, st, nx, nt⟩ q := fun q => by
    unfold S.blk
    simp only [lk_put]
    by_cases e : n2 = q <;> by_cases e2 : n = q <;> simp [e, e2]
  have keep : ∀ q b, S.blk ⟨tm, st, nx, nt⟩ q = some b → n ≠ q → BlkAt (fun b => M b ∨ N b) M (· < nx) φ w (φ q) b → BlkAt (fun b => M' b ∨ N b) M' (· < nx) φ w (φ q) b := fun q b hb hq g2 => by
    have hdif : ∀ y, (φ q).blk = some y → (φ n).blk ≠ some y := fun y h1 h2 => hq (hr.inj n q _ _ y hB hb h2 h1)
    cases b with
    | els T' sz' xs =>
      obtain ⟨h1, h2, h3, h4, h5⟩ := g2
      refine ⟨h1, h2, h3, h4, h5.imp id ?_⟩
      rintro ⟨b, cur, k1, k2, k3, k4, k5, k6, k7⟩
      refine ⟨b, cur, k1, ⟨k2, hdif b k1⟩, k3, k4, k5, k6, fun i j x u hx hu => ?_⟩
      obtain ⟨y, hy, hq⟩ := k7 i j x u hx hu
      exact ⟨y, hy, hq.mono (fun b _ h => hsub b h) (.refl _ w) (fun _ h => h) fun _ _ => rfl⟩
    | map es =>
      obtain ⟨b, ents, clock, k1, k2, k3, k4, k5⟩ := g2
      exact ⟨b, ents, clock, k1, ⟨k2, hdif b k1⟩, k3, k4, fun i k v e hk he => ⟨(k5 i k v e hk he).1.mono (fun b _ h => hsub b h) (.refl _ w), (k5 i k v e hk he).2.mono (fun b _ h => hsub b h) (.refl _ w) (fun _ h => h) fun _ _ => rfl⟩⟩
    | sit s pos =>
      obtain ⟨h0, b, k1, k2, k3⟩ := g2
      exact ⟨h0, b, k1, ⟨k2, hdif b k1⟩, k3⟩
  obtain ⟨hn2, hb2⟩ := hr.st n2 _ hB2
  have hrow : BlkAt (fun b => M' b ∨ N b) M' (· < nx) φ w (φ n2) (.els T2 sz2 [.agg cs']) := by
    have h0 := keep n2 _ hB2 (fun e => hnn e.symm) hb2
    obtain ⟨h1, h2, h3, h4, h5⟩ := h0
    obtain ⟨_, _, _, _, o5⟩ := hb2
    rw [nth_eq] at hi
    subst hcs
    obtain ⟨q1, q2⟩ := h4 (.agg cs) (List.mem_singleton.2 rfl)
    have hlen : (cs.set i (.fro (L.map f))).length = cs.length := List.length_set
    refine ⟨h1, h2, h3, fun x hx => ?_, ?_⟩
    · rw [List.mem_singleton] at hx
      subst hx
      refine ⟨by rw [← q1]; exact hlen, fun u hu => ?_⟩
      rcases List.mem_or_eq_of_mem_set hu with hu | rfl
      · exact q2 u hu
      · rfl
    · rcases h5 with h5 | ⟨b, cur, k1, k2, k3, k4, k5, k6, k7⟩
      · cases h5.2.1
      · rcases o5 with o5 | ⟨b', cur', o1, o2, o3, o4, o6, o7, o8⟩
        · cases o5.2.1
        rw [k1] at o1
        cases o1
        rw [k3] at o3
        cases o3
        refine .inr ⟨b, cur, k1, k2, k3, k4, k5, k6, fun p j x u hx hu => ?_⟩
        rcases p with _ | p
        · cases hx
          change (cs.set i (.fro (L.map f)))[j]? = some u at hu
          by_cases hj : i = j
          · subst hj
            have hil : i < cs.length := (List.getElem?_eq_some_iff.1 hi).1
            rw [List.getElem?_set_self hil] at hu
            cases hu
            obtain ⟨y, hy, hq⟩ := o8 0 i (.agg cs) (.own n 0 m) rfl hi
            exact ⟨y, hy, .fz ((hz y hq).mono (fun b _ h => h) (.refl _ w))⟩
          · rw [List.getElem?_set_ne hj] at hu
            exact k7 0 j (.agg cs) u rfl hu
        · cases hx
  have r3 : Rel N M' (· < nx) φ ⟨tm, (n2, some (.els T2 sz2 [.agg cs'])) :: (n, none) :: st, nx, nt⟩ a w := by
    refine ⟨fun q v hq => ?_, hr.nt, fun q b hb => ?_, fun q q' b b' x e1 e2 e3 e4 => ?_, fun b hb => hr.lim b (hsub b hb), fun b h1 h2 => hr.dis b h1.1 h2, hr.df, hr.pin, hr.gl.sub hsub⟩
    · obtain ⟨g1, g2⟩ := hr.tm q v hq
      exact ⟨g1, g2.mono (fun b _ h => hsub b h) (.refl _ w) (fun _ h => h) fun _ _ => rfl⟩
    · rw [hbn] at hb
      split at hb
      · rename_i e
        subst e; cases hb
        exact ⟨hn2, hrow⟩
      · split at hb
        · cases hb
        · rename_i h1 h2
          obtain ⟨g1, g2⟩ := hr.st q b hb
          exact ⟨g1, keep q b hb h2 g2⟩
    · have old : ∀ q b, S.blk ⟨tm, (n2, some (.els T2 sz2 [.agg cs'])) :: (n, none) :: st, nx, nt⟩ q = some b → ∃ b0, S.blk ⟨tm, st, nx, nt⟩ q = some b0 := fun q b hb => by
        rw [hbn] at hb
        split at hb
        · rename_i e; subst e; exact ⟨_, hB2⟩
        · split at hb
          · cases hb
          · exact ⟨_, hb⟩
      obtain ⟨b0, e1'⟩ := old q b e1
      obtain ⟨b1, e2'⟩ := old q' b' e2
      exact hr.inj q q' b0 b1 x e1' e2' e3 e4
  refine wp_mono (k M' φ a w r3) fun e a' w' ⟨M3, φ3, s3, h1, h2, h3, h4⟩ => ⟨M3, φ3, s3, ⟨h1.os, h1.tape, h1.output, h1.size, fun b hb hM => h1.block b hb fun h => hM h.1⟩, fun b hb h => (h2 b hb h).1, h3, h4⟩
end
end Go.Proofs.YtpffdbplcgmilaaGreatDoor.Abs
namespace Go.Proofs.YtpffdbplcgmilaaGreatDoor.Abs
open Go.RowKit Mem Facts
/-- THE CONTRACT of a call that panics: of the rows that it was handed nothing is told. -/
def MPanG (P : Program) (g : Glob) (f : FuncId) (args : List V) (st : List Blk) (ch : List PanicEntry) : Prop :=
  ∀ (N M : Nat → Prop) (φ : Nat → Pl) (w : World) (vs : Array Value), RowsAt g N M (· < st.length) φ (st.map some) w → args.length = vs.size →
    (∀ (i : Nat) v x, args[i]? = some v → vs[i]? = some x → Rep (fun b => M b ∨ N b) (· < st.length) φ w v x) →
    Calls P f vs w (fun e w' => e = .panicked ch ∧ Stays M w w')
def MPan (P : Program) (f : FuncId) (args : List V) (st : List Blk) (ch : List PanicEntry) : Prop := ∀ g, MPanG P g f args st ch
def PEnd (ch : List PanicEntry) : Exit → S → Prop
  | .panic ch', _ => ch' = ch
  | _, _ => False
section
variable {P : Program} {tb : List Ty} {N : Env} {M A : Nat → Prop} {φ : Nat → Pl} {s : S} {a : Act} {w w' : World} {o : Oper} {l : List Oper} {Q : Exit → S → Prop}
/-- An operation that panics: what it changes lies in the rows ns. -/
def PanLaw (P : Program) (N : Env) (o : Oper) (fp : Fp) (ch : List PanicEntry) (ns : List Nat) : Prop :=
  ∀ s M A φ a w, Holds fp s → Rel N M A φ s a w →
    o.wp P a w (fun _ _ => False) (fun e a' w' => e = .panic ch ∧ a' = a ∧ ∃ H : Nat → Prop, (∀ b, H b → M b) ∧ (∀ n k b, s.blk n = some k → n ∉ ns → (φ n).blk = some b → ¬ H b) ∧ Stays H w w')
/-- At the state s the operation o panics, and Q holds of what is left: the rows but ns. -/
structure PanAt (P : Program) (N : Env) (l : List Oper) (o : Oper) (Q : Exit → S → Prop) (s : S) : Prop where
  ex : ∃ fp ch ns, guardV l o s = some true ∧ PanLaw P N o fp ch ns ∧ Holds fp s ∧ Q (.panic ch) ⟨s.tm, ns.map (fun n => (n, none)) ++ s.st, s.nx, s.nt⟩
end
section
variable {P : Program} {N : Env} {l : List Oper} {o : Oper} {tm : List (Nat × V)} {st : List (Nat × Option Blk)} {nx nt : Nat} {Q : Exit → S → Prop}
end
end Go.Proofs.YtpffdbplcgmilaaGreatDoor.Abs
namespace Go.Proofs.YtpffdbplcgmilaaGreatDoor.Abs
open Go.RowKit Mem Facts
section
variable {P : Program} {tb : List Ty} {N : Env} {M A : Nat → Prop} {φ : Nat → Pl} {s : S} {a : Act} {w : World} {o : Oper} {l : List Oper}
end
/-! ### The deferred call -/
section
variable {P : Program} {Q : Exit → Act → List Frame → World → Prop} {a : Act} {cs : List Frame} {w : World} {ops : Array Oper} {o : Oper} {i : Nat} {rest : List Nat}
end
/-! ### The part ahead of the deferring one -/
/-- As AWp; what stands behind is any word that is kept as the world goes on. -/
def BWp (P : Program) (N : Env) (c : Code) (J : (Nat → Prop) → (Nat → Pl) → Exit → Act → World → Prop) (s : S) : Prop :=
  ∀ M φ a w, Rel N M (· < s.nx) φ s a w → c.wp P (fun e a' w' => ∃ M' φ', Stays M w w' ∧ (∀ b, b < w.heap.size → M' b → M b) ∧ J M' φ' e a' w') a w
end Go.Proofs.YtpffdbplcgmilaaGreatDoor.Abs
end

section
namespace Go.Proofs.YtpffdbplcgmilaaGreatDoor.JarC
open Go.RowKit Mem Abs Scan JarP JarQ JarA JarB

def minI (o : Option Nat) : Int := match o with
  | none => -1
  | some a => (a : Int)
def ofP (d : List UInt8) (all : Bool) (c : Cookie) : Bool := all || decide (c.domain = d)
end Go.Proofs.YtpffdbplcgmilaaGreatDoor.JarC
end

section
namespace Go.Proofs.YtpffdbplcgmilaaGreatDoor.JarR
open Abs Scan JarP JarQ JarC

/-- Right, but for how many there are. -/
structure Rw (L : List Cookie) (nx : Int) : Prop where
  mom : ∀ c ∈ L, badM c = false
  no : ∀ c ∈ L, 0 ≤ c.no ∧ c.no < nx
  dis : L.Pairwise fun a b => sameK a b = false ∧ a.no ≠ b.no
  nx : 0 ≤ nx ∧ nx ≤ 1099511627776
theorem Rj.weak {L : List Cookie} {nx : Int} (h : Rj L nx) : Rw L nx := ⟨h.mom, h.no, h.dis, h.nx⟩
theorem Rw.sub {L M : List Cookie} {nx : Int} (h : Rw L nx) (hs : M.Sublist L) : Rw M nx := ⟨fun c hc => h.mom c (hs.subset hc), fun c hc => h.no c (hs.subset hc), h.dis.sublist hs, h.nx⟩
theorem Rw.right {L : List Cookie} {nx : Int} (h : Rw L nx) (hl : L.length ≤ 12) (hp : ∀ d : List UInt8, L.countP (fun c => decide (c.domain = d)) ≤ 4) : Rj L nx := ⟨hl, h.mom, h.no, h.dis, hp, h.nx⟩
end Go.Proofs.YtpffdbplcgmilaaGreatDoor.JarR
end

section
namespace Go.Proofs.YtpffdbplcgmilaaGreatDoor.GoesW
open Go.RowKit Mem Abs TreeW HostP HostO HostA HostB HostC HostD WordP WordS Globs PathT

theorem last_ends (o : List UInt8) : endsB o [47] = decide (o.getLast? = some 47) := by
  rw [Bool.eq_iff_iff, endsB_iff, decide_eq_true_eq, List.getLast?_eq_some_iff]
set_option maxRecDepth 100000 in
set_option maxHeartbeats 4000000 in
theorem path_v {p o : List UInt8} : ACalls Tryz.prog 66 [strT p, strT o] (.bool (pathF p o)) := by
  have c1 := cutPrefix_v (l := p) (m := o)
  have c2 := hasSuffix_v (l := o) (m := [47])
  rw [last_ends] at c2
  cases hp : pre p o with
  | false =>
    have e : cutP p o = (p, false) := by unfold cutP; rw [hp]; rfl
    have e2 : pathF p o = false := by unfold pathF; rw [hp]; rfl
    rw [e] at c1
    rw [e2]
    refine fun2 tb_ok Tryz.func66 rfl Tryz.ntmps66 Tryz.results66 rfl fun N => ?_
    repeat' (first | refine zt ?_ | (refine isR ?_; first | refine zo ?_ | refine zk c1 ?_ | refine zc5 ?_ | refine zI ?_ | (refine zs5 ?_ ?_ <;> intro hc)) | refine awp_split rfl (fun hb => ?_) (fun hb => ?_) | refine zr ?_ | exact x_le)
    rfl
  | true =>
    have e : cutP p o = (p.drop o.length, true) := by unfold cutP; rw [hp]; rfl
    have e2 : pathF p o = (decide (p.drop o.length = []) || decide (o.getLast? = some 47) || decide ((p.drop o.length).head? = some 47)) := by unfold pathF; rw [hp]; rfl
    rw [e] at c1
    rw [e2]
    dsimp only at c1
    generalize p.drop o.length = x at *
    generalize decide (o.getLast? = some 47) = z at *
    cases x with
    | nil =>
      refine fun2 tb_ok Tryz.func66 rfl Tryz.ntmps66 Tryz.results66 rfl fun N => ?_
      repeat' (first | refine zt ?_ | (refine isR ?_; first | refine zo ?_ | refine zk c1 ?_ | refine zc5 ?_ | refine zI ?_ | (refine zs5 ?_ ?_ <;> intro hc)) | refine awp_split rfl (fun hb => ?_) (fun hb => ?_) | refine zr ?_ | exact x_le)
      rfl
    | cons b x =>
      have e3 : (b :: x)[(0 : Int).toNat]? = some b := rfl
      have e4 : decide ((b :: x).head? = some 47) = decide ((b.toNat : Int) = 47) := by
        have := byte_eq (c := b) (d := 47)
        simp [this]
      have hnn : ¬ (b :: x : List UInt8) = [] := by simp
      have hb := b.toNat_lt
      rw [e4, decide_eq_false hnn]
      refine fun2 tb_ok Tryz.func66 rfl Tryz.ntmps66 Tryz.results66 rfl fun N => ?_
      repeat' (first | refine zt ?_ | (refine isR ?_; first | refine zo ?_ | refine zk c1 ?_ | refine x_callS (c2 _) (fun hb => ?_) (fun hb => ?_) | refine x_callS (c2) (fun hb => ?_) (fun hb => ?_) | refine zc5 ?_ | refine zI ?_ | (refine zs5 ?_ ?_ <;> intro hc)) | refine awp_split rfl (fun hb => ?_) (fun hb => ?_) | refine zr ?_ | exact x_le)
      all_goals (show V.bool _ = V.bool _; simp [*])
/-! ### Goes -/
def mayF (c : Cookie) (f : From) : Bool := !(c.secure && !f.secure) && (!(c.httpOnly && f.script) && !(f.abroad && !decide (c.site = 1)))
def atF (c : Cookie) (f : From) : Bool := if c.hostOnly then decide (f.host = c.domain) else matchF f.host c.domain
def goesF (c : Cookie) (f : From) (now : Int) : Bool := decide (now < c.expiry) && (atF c f && (pathF f.path c.path && mayF c f))
abbrev askV (f : From) (now : Int) : Abs.V := .agg [.str (str f.host), .str (str f.path), .bool f.secure, .bool f.script, .bool f.abroad, .int .i64 now]
set_option maxRecDepth 100000 in
set_option maxHeartbeats 4000000 in
theorem live_v {c : Cookie} {now : Int} : ACalls Tryz.prog 64 [c.v, .int .i64 now] (.bool (decide (now < c.expiry))) := by
  refine fun2 tb_ok Tryz.func64 rfl Tryz.ntmps64 Tryz.results64 rfl fun N => ?_
  repeat' (first | refine zt ?_ | (refine isR ?_; first | refine zo ?_ | refine zc3 ?_ | (refine zs3 ?_ ?_ <;> intro hc)) | refine awp_split rfl (fun hb => ?_) (fun hb => ?_) | refine zr ?_ | exact x_le)
  all_goals (show V.bool _ = V.bool _; first | rfl | simp_all)
set_option maxRecDepth 100000 in
set_option maxHeartbeats 4000000 in
theorem alive_v {c : Cookie} {f : From} {now : Int} : ACalls Tryz.prog 25 [askV f now, c.v] (.bool (decide (now < c.expiry))) := by
  have c1 := live_v (c := c) (now := now)
  refine fun2 tb_ok Tryz.func25 rfl Tryz.ntmps25 Tryz.results25 rfl fun N => ?_
  repeat' (first | refine zt ?_ | (refine isR ?_; first | refine zo ?_ | refine zk c1 ?_) | refine awp_split rfl (fun hb => ?_) (fun hb => ?_) | refine zr ?_ | exact x_le)
  rfl
set_option maxRecDepth 100000 in
set_option maxHeartbeats 4000000 in
theorem along_v {c : Cookie} {f : From} {now : Int} : ACalls Tryz.prog 27 [askV f now, c.v] (.bool (pathF f.path c.path)) := by
  have c1 := path_v (p := f.path) (o := c.path)
  refine fun2 tb_ok Tryz.func27 rfl Tryz.ntmps27 Tryz.results27 rfl fun N => ?_
  repeat' (first | refine zt ?_ | (refine isR ?_; first | refine zo ?_ | refine zk c1 ?_) | refine awp_split rfl (fun hb => ?_) (fun hb => ?_) | refine zr ?_ | exact x_le)
  rfl
set_option maxRecDepth 100000 in
set_option maxHeartbeats 4000000 in
theorem at_v {c : Cookie} {f : From} {now : Int} (hd : c.domain.length ≤ 140737488355327) (hf : f.host.length ≤ 4398046511104) : ACallsG Tryz.prog gStr 26 [askV f now, c.v] (.bool (atF c f)) := by
  have c1 := match_v (l := f.host) (m := c.domain) hf hd
  unfold atF
  obtain ⟨f1, f2, f3, f4, f5⟩ := f
  obtain ⟨d1, d2, d3, d4, d5, d6, d7, d8, d9, d10, d11, d12, d13⟩ := c
  dsimp only at *
  cases d5
  · skip
    refine funG2 tb_ok Tryz.func26 rfl Tryz.ntmps26 Tryz.results26 rfl fun N => ?_
    repeat' (first | refine zt ?_ | (refine isR ?_; first | refine zo ?_ | refine zk c1 ?_ | refine zc5 ?_ | (refine zs5 ?_ ?_ <;> intro hc)) | refine awp_split rfl (fun hb => ?_) (fun hb => ?_) | refine zr ?_ | exact x_le)
    rfl
  · skip
    refine funG2 tb_ok Tryz.func26 rfl Tryz.ntmps26 Tryz.results26 rfl fun N => ?_
    repeat' (first | refine zt ?_ | (refine isR ?_; first | refine zo ?_ | refine zk c1 ?_ | refine zc5 ?_ | (refine zs5 ?_ ?_ <;> intro hc)) | refine awp_split rfl (fun hb => ?_) (fun hb => ?_) | refine zr ?_ | exact x_le)
    all_goals (show V.bool _ = V.bool _; first | rfl | simp_all)
set_option maxRecDepth 100000 in
set_option maxHeartbeats 4000000 in
theorem may_v {c : Cookie} {f : From} {now : Int} : ACalls Tryz.prog 28 [askV f now, c.v] (.bool (mayF c f)) := by
  unfold mayF
  obtain ⟨f1, f2, f3, f4, f5⟩ := f
  obtain ⟨d1, d2, d3, d4, d5, d6, d7, d8, d9, d10, d11, d12, d13⟩ := c
  dsimp only at *
  cases d6
  · cases d7
    · cases f5
      all_goals
        refine fun2 tb_ok Tryz.func28 rfl Tryz.ntmps28 Tryz.results28 rfl fun N => ?_
        repeat' (first | refine zt ?_ | (refine isR ?_; first | refine zo ?_ | refine zc6 ?_ | (refine zs6 ?_ ?_ <;> intro hc)) | refine awp_split rfl (fun hb => ?_) (fun hb => ?_) | refine zr ?_ | exact x_le)
        all_goals (show V.bool _ = V.bool _; first | rfl | simp_all)
    · cases f4 <;> cases f5
      all_goals
        refine fun2 tb_ok Tryz.func28 rfl Tryz.ntmps28 Tryz.results28 rfl fun N => ?_
        repeat' (first | refine zt ?_ | (refine isR ?_; first | refine zo ?_ | refine zc6 ?_ | (refine zs6 ?_ ?_ <;> intro hc)) | refine awp_split rfl (fun hb => ?_) (fun hb => ?_) | refine zr ?_ | exact x_le)
        all_goals (show V.bool _ = V.bool _; first | rfl | simp_all)
  · cases f3
    · skip
      refine fun2 tb_ok Tryz.func28 rfl Tryz.ntmps28 Tryz.results28 rfl fun N => ?_
      repeat' (first | refine zt ?_ | (refine isR ?_; first | refine zo ?_ | refine zc6 ?_ | (refine zs6 ?_ ?_ <;> intro hc)) | refine awp_split rfl (fun hb => ?_) (fun hb => ?_) | refine zr ?_ | exact x_le)
      all_goals (show V.bool _ = V.bool _; first | rfl | simp_all)
    · cases d7
      · cases f5
        all_goals
          refine fun2 tb_ok Tryz.func28 rfl Tryz.ntmps28 Tryz.results28 rfl fun N => ?_
          repeat' (first | refine zt ?_ | (refine isR ?_; first | refine zo ?_ | refine zc6 ?_ | (refine zs6 ?_ ?_ <;> intro hc)) | refine awp_split rfl (fun hb => ?_) (fun hb => ?_) | refine zr ?_ | exact x_le)
          all_goals (show V.bool _ = V.bool _; first | rfl | simp_all)
      · cases f4 <;> cases f5
        all_goals
          refine fun2 tb_ok Tryz.func28 rfl Tryz.ntmps28 Tryz.results28 rfl fun N => ?_
          repeat' (first | refine zt ?_ | (refine isR ?_; first | refine zo ?_ | refine zc6 ?_ | (refine zs6 ?_ ?_ <;> intro hc)) | refine awp_split rfl (fun hb => ?_) (fun hb => ?_) | refine zr ?_ | exact x_le)
          all_goals (show V.bool _ = V.bool _; first | rfl | simp_all)
set_option maxRecDepth 100000 in
set_option maxHeartbeats 4000000 in
theorem goes_v {c : Cookie} {f : From} {now : Int} (hd : c.domain.length ≤ 140737488355327) (hf : f.host.length ≤ 4398046511104) : ACallsG Tryz.prog gStr 9 [c.v, f.v, .int .i64 now] (.bool (goesF c f now)) := by
  have c1 := alive_v (c := c) (f := f) (now := now)
  have c2 := at_v (c := c) (f := f) (now := now) hd hf
  have c3 := along_v (c := c) (f := f) (now := now)
  have c4 := may_v (c := c) (f := f) (now := now)
  have e : goesF c f now = (decide (now < c.expiry) && (atF c f && (pathF f.path c.path && mayF c f))) := rfl
  rw [e]
  generalize decide (now < c.expiry) = x at *
  generalize atF c f = y at *
  generalize pathF f.path c.path = z at *
  generalize mayF c f = u at *
  refine funG3 tb_ok Tryz.func9 rfl Tryz.ntmps9 Tryz.results9 rfl fun N => ?_
  repeat' (first | with_reducible refine rounds_on ?_ | with_reducible refine awp_rounds 6 ?_ | refine zt ?_ | (refine isR ?_; first | refine zo ?_ | refine x_callvS (c1 _) (fun hb => ?_) (fun hb => ?_) | refine x_callvS (c1) (fun hb => ?_) (fun hb => ?_) | refine x_callvS (c2 _) (fun hb => ?_) (fun hb => ?_) | refine x_callvS (c2) (fun hb => ?_) (fun hb => ?_) | refine x_callvS (c3 _) (fun hb => ?_) (fun hb => ?_) | refine x_callvS (c3) (fun hb => ?_) (fun hb => ?_) | refine x_callvS (c4 _) (fun hb => ?_) (fun hb => ?_) | refine x_callvS (c4) (fun hb => ?_) (fun hb => ?_) | refine zA ?_ | refine zc1 ?_ | refine zI ?_ | (refine zs1 ?_ ?_ <;> intro hc)) | refine awp_split rfl (fun hb => ?_) (fun hb => ?_) | refine zr ?_ | exact x_le)
  all_goals (show V.bool _ = V.bool _; first | rfl | simp_all)
end Go.Proofs.YtpffdbplcgmilaaGreatDoor.GoesW
end

section
namespace Go.Proofs.YtpffdbplcgmilaaGreatDoor.SufP
open HostP WordP WordS Abs
deriving instance DecidableEq for Suffix

theorem find_idx {α : Type} {p : α → Bool} : ∀ {xs : List α} {b : α}, xs.find? p = some b ↔ ∃ i : Nat, xs[i]? = some b ∧ p b = true ∧ ∀ (j : Nat) c, j < i → xs[j]? = some c → p c = false
  | [], b => by simp
  | x :: xs, b => by
    rw [List.find?_cons]
    cases h : p x with
    | true =>
      constructor
      · intro e; cases e
        exact ⟨0, rfl, h, fun j c hj => by omega⟩
      · rintro ⟨i, h1, h2, h3⟩
        rcases i with _ | i
        · exact h1
        · have := h3 0 x (by omega) rfl
          rw [h] at this; cases this
    | false =>
      show List.find? p xs = some b ↔ _
      rw [find_idx (xs := xs)]
      constructor
      · rintro ⟨i, h1, h2, h3⟩
        refine ⟨i + 1, by simpa using h1, h2, fun j c hj hc => ?_⟩
        rcases j with _ | j
        · simp at hc; subst hc; exact h
        · exact h3 j c (by omega) (by simpa using hc)
      · rintro ⟨i, h1, h2, h3⟩
        rcases i with _ | i
        · simp at h1; subst h1; rw [h] at h2; cases h2
        · exact ⟨i, by simpa using h1, h2, fun j c hj hc => h3 (j + 1) c (by omega) (by simpa using hc)⟩
theorem find_no {α : Type} {p : α → Bool} {xs : List α} : xs.find? p = none ↔ ∀ (j : Nat) c, xs[j]? = some c → p c = false := by
  rw [List.find?_eq_none]
  constructor
  · intro h j c hc
    simpa using h c (List.mem_of_getElem? hc)
  · intro h c hc
    obtain ⟨j, hj⟩ := List.mem_iff_getElem?.1 hc
    simpa using h j c hj
theorem find_on {α : Type} {p : α → Bool} {xs : List α} {k : Nat} {d : α} (h : xs[k]? = some d) : (xs.take (k + 1)).find? p = ((xs.take k).find? p).or (if p d then some d else none) := by
  obtain ⟨hk, rfl⟩ := List.getElem?_eq_some_iff.1 h
  rw [List.take_succ_eq_append_getElem hk, List.find?_append]
  congr 1
  rw [List.find?_cons]
  cases p xs[k] <;> rfl

/-! ### What is above -/
def up : List UInt8 → List UInt8
  | [] => []
  | c :: r => if c = 46 then r else up r
theorem up_none {l : List UInt8} (h : l.contains 46 = false) : up l = [] := by
  induction l with
  | nil => rfl
  | cons c r ih =>
    simp only [List.contains_cons, Bool.or_eq_false_iff, beq_eq_false_iff_ne] at h
    unfold up
    rw [if_neg (fun e => h.1 e.symm), ih h.2]
theorem up_at {a r : List UInt8} (h : a.contains 46 = false) : up (a ++ 46 :: r) = r := by
  induction a with
  | nil => simp [up]
  | cons c a ih =>
    simp only [List.contains_cons, Bool.or_eq_false_iff, beq_eq_false_iff_ne] at h
    rw [List.cons_append, up, if_neg (fun e => h.1 e.symm), ih h.2]
theorem after_up (l : List UInt8) : after l = if l.contains 46 then up l :: after (up l) else [] := by
  rcases first_at 46 l with h | ⟨a, r, rfl, h⟩
  · rw [h, after_none l h]; rfl
  · rw [after_at a r h, up_at h, if_pos (by simp)]
theorem up_len (l : List UInt8) : (up l).length ≤ l.length := by
  induction l with
  | nil => exact Nat.le_refl _
  | cons c r ih => unfold up; split <;> simp <;> omega
theorem up_lt {l : List UInt8} (h : l ≠ []) : (up l).length < l.length := by
  cases l with
  | nil => exact absurd rfl h
  | cons c r =>
    have := up_len r
    unfold up; split <;> simp <;> omega
def ch (l : List UInt8) : List (List UInt8) := l :: after l
theorem ch_eq (l : List UInt8) : ch l = l :: if l.contains 46 then ch (up l) else [] := by
  unfold ch
  rw [after_up l]
theorem ch_next : ∀ (k : Nat) (l u : List UInt8), (ch l)[k]? = some u → (ch l)[k + 1]? = if u.contains 46 then some (up u) else none
  | 0, l, u, h => by
    rw [ch_eq l] at h ⊢
    simp at h; subst h
    simp only [List.getElem?_cons_succ]
    cases l.contains 46 <;> simp [ch]
  | k + 1, l, u, h => by
    rw [ch_eq l] at h ⊢
    simp only [List.getElem?_cons_succ] at h ⊢
    cases hc : l.contains 46 with
    | false => rw [hc] at h; simp at h
    | true =>
      rw [hc] at h
      simpa using ch_next k (up l) u (by simpa using h)
theorem contains_ne {l : List UInt8} (h : l.contains 46 = true) : l ≠ [] := fun e => by subst e; simp at h
theorem ch_short {l : List UInt8} {i : Nat} : ∀ {j : Nat} {u v : List UInt8}, i < j → (ch l)[i]? = some u → (ch l)[j]? = some v → v.length < u.length
  | 0, _, _, h, _, _ => by omega
  | j + 1, u, v, h, h1, h2 => by
    have hj : j < (ch l).length := by have := (List.getElem?_eq_some_iff.1 h2).1; omega
    obtain ⟨x, hx⟩ : ∃ x, (ch l)[j]? = some x := ⟨_, List.getElem?_eq_getElem hj⟩
    have h3 := ch_next j l x hx
    rw [h2] at h3
    split at h3
    · rename_i hc
      cases h3
      have := up_lt (contains_ne hc)
      rcases Nat.lt_or_ge i j with g | g
      · have := ch_short g h1 hx; omega
      · have : i = j := by omega
        subst this
        rw [h1] at hx; cases hx; omega
    · cases h3
theorem ch_inj {l u : List UInt8} {i j : Nat} (h1 : (ch l)[i]? = some u) (h2 : (ch l)[j]? = some u) : i = j := by
  rcases Nat.lt_trichotomy i j with h | h | h
  · have := ch_short h h1 h2; omega
  · exact h
  · have := ch_short h h2 h1; omega
theorem ups_ch {h : List UInt8} (h0 : h ≠ []) (ha : address h = false) : upsF h = ch h := by unfold upsF ch; rw [if_neg h0, ha]; rfl
/-! ### Hosts -/
def hostOk (l : List UInt8) : Bool := decide (canonF l = (l, 0))
structure Hst (l : List UInt8) : Prop where
  fold : fold l = l
  len : l.length ≤ 253
  lab : (split 46 l).all label = true
theorem host_iff (l : List UInt8) : hostOk l = true ↔ Hst l := by
  unfold hostOk
  rw [decide_eq_true_eq]
  constructor
  · intro e
    obtain ⟨h1, h2, h3⟩ := canon_ok e
    exact ⟨h1.symm, h2, by rw [← h1] at h3; exact h3⟩
  · intro ⟨h1, h2, h3⟩
    unfold canonF
    rw [if_neg (by omega), h1, if_pos h3]
theorem Hst.ne {l : List UInt8} (h : Hst l) : l ≠ [] := fun e => by
  have := h.lab
  rw [e] at this
  simp [split, label] at this
theorem Hst.part {x u : List UInt8} (h : Hst (x ++ 46 :: u)) : Hst u := by
  obtain ⟨h1, h2, h3⟩ := h
  refine ⟨?_, by simp at h2; omega, ?_⟩
  · rw [fold_app, show WordP.fold (46 :: u) = foldB 46 :: WordP.fold u from rfl] at h1
    have hl : (WordP.fold x).length = x.length := by simp [WordP.fold]
    have := (List.append_inj h1 hl).2
    exact (List.cons.injEq _ _ _ _ ▸ this).2
  · rw [split_mid, List.all_append, Bool.and_eq_true] at h3
    exact h3.2
theorem Hst.mem {l u : List UInt8} (h : Hst l) (hu : u ∈ ch l) : Hst u := by
  unfold ch at hu
  rcases List.mem_cons.1 hu with rfl | hu
  · exact h
  · obtain ⟨x, rfl⟩ := (mem_after u l).1 hu
    exact h.part
theorem Hst.dot {l : List UInt8} (h : Hst l) : (up l = []) ↔ l.contains 46 = false := by
  rcases first_at 46 l with hc | ⟨a, r, rfl, hc⟩
  · exact ⟨fun _ => hc, fun _ => up_none hc⟩
  · rw [up_at hc]
    have := h.part.ne
    exact ⟨fun e => absurd e this, fun e => by simp at e⟩
/-! ### Rules -/
def bad1 (r : Suffix) : Nat := if r.kind < 1 ∨ 3 < r.kind then 7 else if hostOk r.name = false ∨ address r.name = true ∨ (r.kind = 3 ∧ up r.name = []) then 1 else 0
def checkG (seen : List Suffix) : List Suffix → Nat
  | [] => 0
  | r :: rest => if bad1 r ≠ 0 then bad1 r else if r ∈ seen then 6 else checkG (seen ++ [r]) rest
def checkF (L : List Suffix) : Nat := if 16 < L.length then 2 else checkG [] L
structure Rules (L : List Suffix) : Prop where
  ok : ∀ r ∈ L, bad1 r = 0
  once : ∀ (i : Nat) r, L[i]? = some r → r ∉ L.take i
theorem checkG_ok : ∀ {L seen : List Suffix}, checkG seen L = 0 → ∀ (i : Nat) r, L[i]? = some r → bad1 r = 0 ∧ r ∉ seen ++ L.take i
  | [], _, _, i, r, h => by simp at h
  | x :: L, seen, e, i, r, h => by
    unfold checkG at e
    split at e
    · rename_i hb; exact absurd e hb
    · rename_i hb
      split at e
      · cases e
      · rename_i hs
        rcases i with _ | i
        · simp at h; subst h
          exact ⟨by omega, by simpa using hs⟩
        · obtain ⟨h1, h2⟩ := checkG_ok e i r (by simpa using h)
          exact ⟨h1, by simpa using h2⟩
theorem check_rules {L : List Suffix} (h : checkF L = 0) : Rules L ∧ L.length ≤ 16 := by
  unfold checkF at h
  split at h
  · cases h
  · refine ⟨⟨fun r hr => ?_, fun i r hi => ?_⟩, by omega⟩
    · obtain ⟨i, hi⟩ := List.mem_iff_getElem?.1 hr
      exact (checkG_ok h i r hi).1
    · have := (checkG_ok h i r hi).2
      simpa using this
theorem bad_ok {r : Suffix} (h : bad1 r = 0) : 1 ≤ r.kind ∧ r.kind ≤ 3 ∧ Hst r.name ∧ address r.name = false ∧ (r.kind = 3 → up r.name ≠ []) := by
  unfold bad1 at h
  split at h
  · cases h
  · rename_i h1
    split at h
    · cases h
    · rename_i h2
      refine ⟨by omega, by omega, (host_iff _).1 ?_, ?_, fun h3 h4 => h2 (.inr (.inr ⟨h3, h4⟩))⟩
      · cases hh : hostOk r.name with
        | true => rfl
        | false => exact absurd (.inl hh) h2
      · cases hh : address r.name with
        | false => rfl
        | true => exact absurd (.inr (.inl hh)) h2
def rIn (L : List Suffix) (kd : Int) (d : List UInt8) : Bool := decide ((⟨kd, d⟩ : Suffix) ∈ L)
def bIn (L : List Suffix) (d : List UInt8) : Bool := rIn L 1 d || rIn L 2 (up d)
def pubF (L : List Suffix) (h : List UInt8) : List UInt8 := if address h then [] else match (ch h).find? (rIn L 3) with
  | some d => up d
  | none => match (ch h).find? (bIn L) with
    | some d => d
    | none => ((ch h).getLast?).getD h
def pubNo (L : List Suffix) (h : List UInt8) : List UInt8 × Nat := if checkF L ≠ 0 then ([], checkF L) else if hostOk h then (pubF L h, 0) else ([], 1)
def owner (L : List Suffix) (h : List UInt8) : List UInt8 := ((ch h).find? fun u => up u == pubF L h).getD []
def ownF (L : List Suffix) (h : List UInt8) : List UInt8 × Nat := if (pubNo L h).2 ≠ 0 then ([], (pubNo L h).2) else if address h then (h, 0) else if pubF L h = h then ([], 5) else (owner L h, 0)
/-- Where the public suffix stands. -/
inductive PubAt (L : List Suffix) (h p : List UInt8) (m : Nat) : Prop
  | exc (k : Nat) (d : List UInt8) (hm : m = k + 1) (hd : (ch h)[k]? = some d) (hr : rIn L 3 d = true) (hf : ∀ (j : Nat) c, j < k → (ch h)[j]? = some c → rIn L 3 c = false)
  | bst (hn : ∀ (j : Nat) c, (ch h)[j]? = some c → rIn L 3 c = false) (hr : bIn L p = true) (hf : ∀ (j : Nat) c, j < m → (ch h)[j]? = some c → bIn L c = false)
  | lst (hn : ∀ (j : Nat) c, (ch h)[j]? = some c → rIn L 3 c = false) (hf : ∀ (j : Nat) c, (ch h)[j]? = some c → bIn L c = false) (hm : m + 1 = (ch h).length)
theorem pub_at {L : List Suffix} {h : List UInt8} (hL : Rules L) (hh : Hst h) (ha : address h = false) : ∃ m, (ch h)[m]? = some (pubF L h) ∧ PubAt L h (pubF L h) m := by
  unfold pubF
  rw [ha]
  simp only [Bool.false_eq_true, if_false]
  cases h1 : (ch h).find? (rIn L 3) with
  | some d =>
    obtain ⟨k, g1, g2, g3⟩ := find_idx.1 h1
    have hd := hh.mem (List.mem_of_getElem? g1)
    have hmem : (⟨3, d⟩ : Suffix) ∈ L := by unfold rIn at g2; simpa using g2
    have hb := (bad_ok (hL.ok _ hmem)).2.2.2.2 rfl
    have hc : d.contains 46 = true := by
      cases hc : d.contains 46 with
      | true => rfl
      | false => exact absurd (hd.dot.2 hc) hb
    have := ch_next k h d g1
    rw [hc, if_pos rfl] at this
    exact ⟨k + 1, this, .exc k d rfl g1 g2 g3⟩
  | none =>
    rw [find_no] at h1
    cases h2 : (ch h).find? (bIn L) with
    | some d =>
      obtain ⟨k, g1, g2, g3⟩ := find_idx.1 h2
      exact ⟨k, g1, .bst h1 g2 g3⟩
    | none =>
      rw [find_no] at h2
      have hne : ch h ≠ [] := by simp [ch]
      have hl : 0 < (ch h).length := List.length_pos_iff.2 hne
      refine ⟨(ch h).length - 1, ?_, .lst h1 h2 (by omega)⟩
      show _ = some (((ch h).getLast?).getD h)
      rw [List.getLast?_eq_getElem?]
      cases hx : (ch h)[(ch h).length - 1]? with
      | none => rw [List.getElem?_eq_none_iff] at hx; omega
      | some x => rfl
theorem pub_ne {L : List Suffix} {h : List UInt8} (hL : Rules L) (hh : Hst h) (ha : address h = false) : pubF L h ≠ [] := by
  obtain ⟨m, h1, _⟩ := pub_at hL hh ha
  exact (hh.mem (List.mem_of_getElem? h1)).ne
/-- Two that stand at one place, in one order. -/
theorem own_at {L : List Suffix} {h : List UInt8} (hL : Rules L) (hh : Hst h) (ha : address h = false) (hn : pubF L h ≠ h) : ∃ k, (ch h)[k]? = some (owner L h) ∧ (ch h)[k + 1]? = some (pubF L h) ∧ up (owner L h) = pubF L h ∧ ∀ (j : Nat) c, j < k → (ch h)[j]? = some c → up c ≠ pubF L h := by
  obtain ⟨m, h1, _⟩ := pub_at hL hh ha
  have hne := pub_ne hL hh ha
  rcases m with _ | k
  · have : pubF L h = h := by
      have : (ch h)[0]? = some h := rfl
      rw [this] at h1
      exact (Option.some.inj h1).symm
    exact absurd this hn
  · have hk : k < (ch h).length := by have := (List.getElem?_eq_some_iff.1 h1).1; omega
    obtain ⟨u, hu⟩ : ∃ u, (ch h)[k]? = some u := ⟨_, List.getElem?_eq_getElem hk⟩
    have h3 := ch_next k h u hu
    rw [h1] at h3
    split at h3
    · rename_i hc
      have he := Option.some.inj h3
      have hfirst : ∀ (j : Nat) c, j < k → (ch h)[j]? = some c → up c ≠ pubF L h := fun j c hj hc' e => by
        have h4 := ch_next j h c hc'
        by_cases hd : c.contains 46 = true
        · rw [hd, if_pos rfl, e] at h4
          have := ch_inj h4 h1
          omega
        · simp only [Bool.not_eq_true] at hd
          rw [up_none hd] at e
          exact hne e.symm
      have ho : owner L h = u := by
        unfold owner
        have : (ch h).find? (fun u => up u == pubF L h) = some u := find_idx.2 ⟨k, hu, by simp [he], fun j c hj hc' => by simpa using hfirst j c hj hc'⟩
        rw [this]; rfl
      rw [ho]
      exact ⟨k, hu, h1, he.symm, hfirst⟩
    · cases h3
/-! ### The laws -/
end Go.Proofs.YtpffdbplcgmilaaGreatDoor.SufP
end
