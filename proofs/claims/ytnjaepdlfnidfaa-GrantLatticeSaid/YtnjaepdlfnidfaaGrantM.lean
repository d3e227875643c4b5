/- The walks of setOf and of Less. -/
import Derived.Test.YtnjaepdlfnidfaaGrantZ
import Derived.Maps.OwnSet
import Derived.Maps.OwnOps
namespace Go.Proofs.Ytnjaepdlfnidfaa.GrantM
open Go.RowKit Go.Maps Mem Scan GrantP GrantW GrantX GrantY GrantZ

theorem lawI : Keyed Try.prog 3 := int_keyed Try.underlying3
theorem zeroU (w : World) : (zeroValue 50).run Try.prog w = .ok (.agg #[]) w := by kernel_rfl
/-- All are ints of 64 bits. -/
def Ints (V : List Int) : Prop := ∀ v ∈ V, (Lit.int .i64 v).wf = true
theorem Ints.at' {V : List Int} (h : Ints V) (k : Nat) (hk : k < V.length) : (Lit.int .i64 (V.getD k 0)).wf = true := by
  rw [List.getD_eq_getElem?_getD, List.getElem?_eq_getElem hk]
  exact h _ (List.getElem_mem hk)
/-- Block b is the set of just these. -/
def SetAt (w : World) (b n : Nat) (V : List Int) : Prop := w.ownsMap Try.prog 3 (unitElem (H := Unit)) b n (Maps.setOf (.agg []) (V.map (Lit.int .i64)))
theorem set_has (V : List Int) (v : Int) : Maps.has (Maps.setOf (H := Unit) (.agg []) (V.map (Lit.int .i64))) (Lit.int .i64 v) = V.contains v := by
  rw [has_setOf _ _ _ (fun x hx => by obtain ⟨a, _, rfl⟩ := List.mem_map.1 hx; trivial), List.any_map]
  induction V with
  | nil => rfl
  | cons a l ih =>
    rw [List.any_cons, ih, List.contains_cons]
    congr 1
    by_cases h : v = a
    · subst h; simp [Lit.sameKey]
    · simp [Lit.sameKey, h, Ne.symm h]
theorem set_snoc (V : List Int) (k : Nat) (h : k < V.length) : Maps.setOf (H := Unit) (.agg []) ((V.take (k + 1)).map (Lit.int .i64)) = (Maps.setOf (.agg []) ((V.take k).map (Lit.int .i64))).put (Lit.int .i64 (V.getD k 0)) (.agg []) := by
  rw [takeI V k h, List.map_append, List.map_singleton, setOf_snoc]
theorem SetAt.kept {w w' : World} {row : Option Nat} {b n : Nat} {V : List Int} (h : SetAt w b n V) (hg : w.grownBy w' row) (hne : some b ≠ row) : SetAt w' b n V := World.ownsMap.kept h hg hne
theorem SetAt.below {w w' : World} {b n : Nat} {V : List Int} (h : SetAt w b n V) (hb : Below w.heap.size w w') : SetAt w' b n V :=
  h.kept (row := none) ⟨hb.os, hb.tape, hb.output, hb.size, fun k hk _ => hb.block k hk⟩ (by simp)
theorem SetAt.lt {w : World} {b n : Nat} {V : List Int} (h : SetAt w b n V) : b < w.heap.size := World.ownsMap.lt h
def SPost (V : List Int) (w : World) (e : Ending) (w' : World) : Prop := e = .returned (.map (some w.heap.size)) ∧ SetAt w' w.heap.size V.length V ∧ Below w.heap.size w w'
set_option maxRecDepth 100000 in
set_option maxHeartbeats 2000000 in
theorem setOf_any (A : Option Addr) (c : Nat) (V : List Int) (w : World) (hr : Row w w.heap.size A (intV V)) (hn : V.length ≤ 1152921504606846976) (hw : Ints V) :
    Calls Try.prog 31 #[.slice A V.length c] w (SPost V w) := by
  have hmm := @run_makeMap Try.prog
  go_enter Try.func31, Try.ntmps31
  go_wp2_with fail
  go_loopw [9] (fun i wr => ∃ k : Nat, k ≤ V.length ∧ i = .int .i64 k ∧ SetAt wr w.heap.size k (V.take k) ∧ Below w.heap.size w wr) (fun i _ => V.length - (intOf i).toNat)
  case atStart => exact ⟨0, Nat.zero_le _, rfl, World.ownsMap_made _ _ _ _, (Below.refl _ _).alloc (Nat.le_refl _) _⟩
  case round =>
    obtain ⟨k, hk, rfl, hown, hb⟩ := hrel
    by_cases hlt : k < V.length
    · obtain ⟨b, o, rfl, hbB, hcs⟩ := ints_open (hr.below hb) (by omega)
      have c0 := hcs k hlt
      have hkey : keyOf Try.prog 3 (.int .i64 (V.getD k 0)) = some (.int .i64 (V.getD k 0)) := keyOf_int_mk Try.underlying3 (hw.at' k hlt)
      have HSN := Lib.hid (set_snoc V k hlt)
      clear hcs
      generalize V.getD k 0 = x at c0 hkey HSN
      go_wp2_with (first
        | (at_mapUpdate; refine wpList_mapUpdate_own _ rfl _ _ _ 47 rfl 3 50 lawI Try.underlying47 (unitElem (H := Unit)) w.heap.size k _ rfl hown (by unfold maxLen; omega) _ _ _ rfl rfl hkey _ [] unitElem_mk ?_; intro w1 hown1 hgrow1))
      go_roundw
      case rel => exact ⟨k + 1, by omega, by go_num, by unfold SetAt; rw [HSN.out]; exact hown1, hb.grown hgrow1 hb.size (fun j hj => by cases hj; exact Nat.le_refl _)⟩
      case measure => simp [intOf]; omega
    · obtain rfl : k = V.length := by omega
      rw [List.take_length] at hown
      go_wp2_with fail
      go_ret
      exact ⟨rfl, hown, hb⟩
/-- The closure of Less: is one not in the set? -/
theorem lessC_any (B b n : Nat) (U : List Int) (x : Int) (w : World) (hc : w.cell? ⟨B, 0, none⟩ = some (.map (some b))) (hs : SetAt w b n U) (hx : (Lit.int .i64 x).wf = true) :
    Calls Try.prog 33 #[.int .i64 x, .pointer (some ⟨B, 0, none⟩)] w (Gives (.bool (!U.contains x)) w) := by
  have hkey : keyOf Try.prog 3 (.int .i64 x) = some (.int .i64 x) := keyOf_int_mk Try.underlying3 hx
  have hh := set_has U x
  generalize U.contains x = r at hh
  go_enter Try.func33, Try.ntmps33
  go_wp2_with (first
    | (at_lookup; refine wpList_lookup_own_unit _ rfl _ _ 47 rfl 3 50 lawI Try.underlying47 (zeroU _) b n _ rfl hs _ _ rfl hkey ?_))
  go_ret
  exact ⟨by simp, (Below.refl _ _).alloc (Nat.le_refl _) _⟩
/-- What is asked of a predicate that is handed over. -/
def PredB (g : Nat) (lb : Array Value) (p : Int → Bool) (V : List Int) (w : World) : Prop := ∀ (W : World) (x : Int), x ∈ V → Below w.heap.size w W → Calls Try.prog g (#[.int .i64 x] ++ lb) W (Gives (.bool (p x)) W)
def idx (p : Int → Bool) (V : List Int) : Int := match V.findIdx? p with | some i => (i : Int) | none => -1
theorem idx_at (p : Int → Bool) (V : List Int) (k : Nat) (h : k < V.length) (hn : ∀ x ∈ V.take k, p x = false) (hp : p (V.getD k 0) = true) : idx p V = (k : Int) := by
  unfold idx
  have e : V.getD k 0 = V[k] := by rw [List.getD_eq_getElem?_getD, List.getElem?_eq_getElem h]; rfl
  rw [e] at hp
  have hf : V.findIdx? p = some k := List.findIdx?_eq_some_iff_getElem.2 ⟨h, hp, fun j hj => by
    have := hn V[j] (by rw [List.mem_take_iff_getElem]; exact ⟨j, by omega, rfl⟩)
    simp [this]⟩
  rw [hf]
theorem idx_none (p : Int → Bool) (V : List Int) (hn : ∀ x ∈ V, p x = false) : idx p V = -1 := by
  unfold idx
  have hf : V.findIdx? p = none := List.findIdx?_eq_none_iff.2 hn
  rw [hf]
theorem idx_any (p : Int → Bool) (V : List Int) : decide (0 ≤ idx p V) = V.any p := by
  unfold idx
  cases h : V.findIdx? p with
  | none =>
    have := List.findIdx?_eq_none_iff.1 h
    have e : V.any p = false := by rw [List.any_eq_false]; intro x hx; rw [this x hx]; decide
    rw [e]; rfl
  | some i =>
    obtain ⟨hi, hp, _⟩ := List.findIdx?_eq_some_iff_getElem.1 h
    have e : V.any p = true := List.any_eq_true.2 ⟨V[i], List.getElem_mem hi, hp⟩
    rw [e]; simp
set_option maxRecDepth 100000 in
set_option maxHeartbeats 2000000 in
theorem indexFunc_any (A : Option Addr) (c : Nat) (V : List Int) (g : Nat) (lb : Array Value) (p : Int → Bool) (w : World) (eg : ∀ args w, (callFunc g args).run Try.prog w = .ok (.enter g args) w) (hr : Row w w.heap.size A (intV V)) (hn : V.length ≤ 1152921504606846976) (hp : PredB g lb p V w) :
    Calls Try.prog 34 #[.slice A V.length c, .func (.func g) #[] lb] w (Gives (.int .i64 (idx p V)) w) := by
  generalize hres : idx p V = res
  have HRES := Lib.hid hres
  have HP := Lib.hid hp
  clear hres hp
  go_enter Try.func34, Try.ntmps34
  go_wp2_with fail
  go_loopw [8] (fun i wr => ∃ k : Nat, k ≤ V.length ∧ i = .int .i64 k ∧ (∀ x ∈ V.take k, p x = false) ∧ Below w.heap.size w wr) (fun i _ => V.length - (intOf i).toNat)
  case atStart => exact ⟨0, Nat.zero_le _, rfl, fun x hx => by simp at hx, Below.refl _ _⟩
  case round =>
    obtain ⟨k, hk, rfl, hall, hb⟩ := hrel
    have HA := Lib.hid hall
    clear hall
    by_cases hlt : k < V.length
    · obtain ⟨b, o, rfl, hbB, hcs⟩ := ints_open (hr.below hb) (by omega)
      have c0 := hcs k hlt
      have hi := idx_at p V k hlt HA.out
      have htk := takeI V k hlt
      have hmem : V.getD k 0 ∈ V := by rw [List.getD_eq_getElem?_getD, List.getElem?_eq_getElem hlt]; exact List.getElem_mem hlt
      clear hcs
      generalize V.getD k 0 = x at c0 hi htk hmem
      have CP := HP.out wr x hmem hb
      cases hx : p x with
      | true =>
        rw [hx] at CP
        have CP := Lib.hid CP
        have HR := Lib.hid (HRES.out.symm.trans (hi hx))
        clear hi htk hx
        go_wp2_with fail
        with_reducible refine CP.out.mono ?_
        rintro e w1 ⟨rfl, b1⟩
        have hb1 := below_cat hb b1
        go_wp2_with fail
        go_ret
        exact ⟨by rw [HR.out]; rfl, hb1⟩
      | false =>
        rw [hx] at CP
        have CP := Lib.hid CP
        have HN : Hid (∀ x ∈ V.take (k + 1), p x = false) := Lib.hid (by
          rw [htk]
          intro y hy
          rcases List.mem_append.1 hy with hy | hy
          · exact HA.out y hy
          · rw [List.mem_singleton.1 hy]; exact hx)
        clear hi htk hx
        go_wp2_with fail
        with_reducible refine CP.out.mono ?_
        rintro e w1 ⟨rfl, b1⟩
        have hb1 := below_cat hb b1
        go_wp2_with fail
        go_roundw
        case rel => exact ⟨k + 1, by omega, by go_num, HN.out, hb1⟩
        case measure => simp [intOf]; omega
    · obtain rfl : k = V.length := by omega
      have h1 := HA.out
      rw [List.take_length] at h1
      have HR := Lib.hid (HRES.out.symm.trans (idx_none p V h1))
      clear h1
      go_wp2_with fail
      go_ret
      exact ⟨by rw [HR.out]; rfl, hb⟩
theorem containsFunc_any (A : Option Addr) (c : Nat) (V : List Int) (g : Nat) (lb : Array Value) (p : Int → Bool) (w : World) (eg : ∀ args w, (callFunc g args).run Try.prog w = .ok (.enter g args) w) (hr : Row w w.heap.size A (intV V)) (hn : V.length ≤ 1152921504606846976) (hp : PredB g lb p V w) :
    Calls Try.prog 32 #[.slice A V.length c, .func (.func g) #[] lb] w (Gives (.bool (V.any p)) w) := by
  have CI := Lib.hid (indexFunc_any A c V g lb p w eg hr hn hp)
  have ha := idx_any p V
  generalize idx p V = r at CI ha
  rw [← ha]
  clear ha hp
  go_enter Try.func32, Try.ntmps32
  go_wp2_with fail
  with_reducible refine CI.out.mono ?_
  rintro e w1 ⟨rfl, b1⟩
  go_wp2_with fail
  go_ret
  exact ⟨by simp, b1⟩
theorem index10 (P : Nat → Bool) (k : Nat) (hk : k < 10) (w : World) : (Instr.index 22 (.agg #[.bool (P 0), .bool (P 1), .bool (P 2), .bool (P 3), .bool (P 4), .bool (P 5), .bool (P 6), .bool (P 7), .bool (P 8), .bool (P 9)]) (.int .i64 (k : Int))).run Try.prog w = .ok (.bool (P k)) w := by
  have i0 : (Instr.index 22 (.agg #[.bool (P 0), .bool (P 1), .bool (P 2), .bool (P 3), .bool (P 4), .bool (P 5), .bool (P 6), .bool (P 7), .bool (P 8), .bool (P 9)]) (.int .i64 0)).run Try.prog w = .ok (.bool (P 0)) w := by kernel_rfl
  have i1 : (Instr.index 22 (.agg #[.bool (P 0), .bool (P 1), .bool (P 2), .bool (P 3), .bool (P 4), .bool (P 5), .bool (P 6), .bool (P 7), .bool (P 8), .bool (P 9)]) (.int .i64 1)).run Try.prog w = .ok (.bool (P 1)) w := by kernel_rfl
  have i2 : (Instr.index 22 (.agg #[.bool (P 0), .bool (P 1), .bool (P 2), .bool (P 3), .bool (P 4), .bool (P 5), .bool (P 6), .bool (P 7), .bool (P 8), .bool (P 9)]) (.int .i64 2)).run Try.prog w = .ok (.bool (P 2)) w := by kernel_rfl
  have i3 : (Instr.index 22 (.agg #[.bool (P 0), .bool (P 1), .bool (P 2), .bool (P 3), .bool (P 4), .bool (P 5), .bool (P 6), .bool (P 7), .bool (P 8), .bool (P 9)]) (.int .i64 3)).run Try.prog w = .ok (.bool (P 3)) w := by kernel_rfl
  have i4 : (Instr.index 22 (.agg #[.bool (P 0), .bool (P 1), .bool (P 2), .bool (P 3), .bool (P 4), .bool (P 5), .bool (P 6), .bool (P 7), .bool (P 8), .bool (P 9)]) (.int .i64 4)).run Try.prog w = .ok (.bool (P 4)) w := by kernel_rfl
  have i5 : (Instr.index 22 (.agg #[.bool (P 0), .bool (P 1), .bool (P 2), .bool (P 3), .bool (P 4), .bool (P 5), .bool (P 6), .bool (P 7), .bool (P 8), .bool (P 9)]) (.int .i64 5)).run Try.prog w = .ok (.bool (P 5)) w := by kernel_rfl
  have i6 : (Instr.index 22 (.agg #[.bool (P 0), .bool (P 1), .bool (P 2), .bool (P 3), .bool (P 4), .bool (P 5), .bool (P 6), .bool (P 7), .bool (P 8), .bool (P 9)]) (.int .i64 6)).run Try.prog w = .ok (.bool (P 6)) w := by kernel_rfl
  have i7 : (Instr.index 22 (.agg #[.bool (P 0), .bool (P 1), .bool (P 2), .bool (P 3), .bool (P 4), .bool (P 5), .bool (P 6), .bool (P 7), .bool (P 8), .bool (P 9)]) (.int .i64 7)).run Try.prog w = .ok (.bool (P 7)) w := by kernel_rfl
  have i8 : (Instr.index 22 (.agg #[.bool (P 0), .bool (P 1), .bool (P 2), .bool (P 3), .bool (P 4), .bool (P 5), .bool (P 6), .bool (P 7), .bool (P 8), .bool (P 9)]) (.int .i64 8)).run Try.prog w = .ok (.bool (P 8)) w := by kernel_rfl
  have i9 : (Instr.index 22 (.agg #[.bool (P 0), .bool (P 1), .bool (P 2), .bool (P 3), .bool (P 4), .bool (P 5), .bool (P 6), .bool (P 7), .bool (P 8), .bool (P 9)]) (.int .i64 9)).run Try.prog w = .ok (.bool (P 9)) w := by kernel_rfl
  have hc : k = 0 ∨ k = 1 ∨ k = 2 ∨ k = 3 ∨ k = 4 ∨ k = 5 ∨ k = 6 ∨ k = 7 ∨ k = 8 ∨ k = 9 := by omega
  rcases hc with rfl | rfl | rfl | rfl | rfl | rfl | rfl | rfl | rfl | rfl
  · exact i0
  · exact i1
  · exact i2
  · exact i3
  · exact i4
  · exact i5
  · exact i6
  · exact i7
  · exact i8
  · exact i9
set_option maxRecDepth 100000 in
set_option maxHeartbeats 4000000 in
theorem less_any (g g' : Int) (P Q : Nat → Bool) (A : Option Addr) (c : Nat) (V : List Int) (A' : Option Addr) (c' : Nat) (U : List Int) (w : World) (hr : Row w w.heap.size A (intV V)) (hr' : Row w w.heap.size A' (intV U)) (hn : V.length ≤ 1152921504606846976) (hn' : U.length ≤ 1152921504606846976) (hV : Ints V) (hU : Ints U) :
    Calls Try.prog 16 #[conV g P A V.length c, conV g' Q A' U.length c'] w (Gives (.bool (less P Q V U)) w) := by
  have hb1 : Below w.heap.size w (w.alloc (conO g P (.slice A V.length c))) := (Below.refl _ _).alloc (Nat.le_refl _) _
  have hb : Below w.heap.size w ((w.alloc (conO g P (.slice A V.length c))).alloc (conO g' Q (.slice A' U.length c'))) := hb1.alloc (by simp) _
  have hb2 : Below (w.alloc (conO g P (.slice A V.length c))).heap.size (w.alloc (conO g P (.slice A V.length c))) ((w.alloc (conO g P (.slice A V.length c))).alloc (conO g' Q (.slice A' U.length c'))) := (Below.refl _ _).alloc (Nat.le_refl _) _
  have p2 : ∀ i, i < 10 → ((w.alloc (conO g P (.slice A V.length c))).alloc (conO g' Q (.slice A' U.length c'))).cell? ⟨w.heap.size + 1, 1 + i, none⟩ = some (.bool (Q i)) := fun i hi => by
    have := box_cells (w.alloc (conO g P (.slice A V.length c))) g' Q (.slice A' U.length c') i hi
    simpa using this
  have v1 : ((w.alloc (conO g P (.slice A V.length c))).alloc (conO g' Q (.slice A' U.length c'))).cell? ⟨w.heap.size, 11, none⟩ = some (.slice A V.length c) := (hb2.cell (p := ⟨w.heap.size, 11, none⟩) (by simp)).trans (by simp [World.cell?_alloc_new])
  have v2 : ((w.alloc (conO g P (.slice A V.length c))).alloc (conO g' Q (.slice A' U.length c'))).cell? ⟨w.heap.size + 1, 11, none⟩ = some (.slice A' U.length c') := by
    have h := heap_alloc_new (w.alloc (conO g P (.slice A V.length c))) (conO g' Q (.slice A' U.length c'))
    rw [show (w.alloc (conO g P (.slice A V.length c))).heap.size = w.heap.size + 1 from by simp] at h
    simp only [World.cell?, h]; rfl
  have hs0 : w.heap.size < ((w.alloc (conO g P (.slice A V.length c))).alloc (conO g' Q (.slice A' U.length c'))).heap.size := by simp; omega
  have hs1 : w.heap.size + 1 < ((w.alloc (conO g P (.slice A V.length c))).alloc (conO g' Q (.slice A' U.length c'))).heap.size := by simp
  have P2 := Lib.hid p2; clear p2 hb1 hb2
  generalize hres : less P Q V U = res
  have HRES := Lib.hid hres
  clear hres
  go_enter Try.func16, Try.ntmps16
  go_wp2_with fail
  change Code.wp _ _ _ _ ((w.alloc (conO g P (.slice A V.length c))).alloc (conO g' Q (.slice A' U.length c')))
  generalize (w.alloc (conO g P (.slice A V.length c))).alloc (conO g' Q (.slice A' U.length c')) = W0 at hb P2 v1 v2 hs0 hs1 ⊢
  go_loop [10] (fun i => ∃ k : Nat, k ≤ 10 ∧ i = .int .i64 k ∧ ∀ i, i < k → P i = true → Q i = true) (fun i => 10 - (intOf i).toNat)
  case atStart => exact ⟨0, by omega, rfl, fun i hi => absurd hi (Nat.not_lt_zero _)⟩
  case round =>
    obtain ⟨k, hk, rfl, hall⟩ := hrel
    have HALL := Lib.hid hall
    clear hall
    by_cases hlt : k < 10
    · have d0 : (k : Int) < 10 := by omega
      have hix := index10 P k hlt
      have c2 := P2.out k hlt
      have hbad := lessP_false (P := P) (Q := Q) hlt
      have hgo : (P k = true → Q k = true) → ∀ i, i < k + 1 → P i = true → Q i = true := fun h i hi => by
        by_cases e : i = k
        · subst e; exact h
        · exact HALL.out i (by omega)
      cases hp : P k with
      | false =>
        rw [hp] at hgo hix
        have HG := Lib.hid (hgo (fun h => by cases h))
        clear hgo hbad c2 hp
        go_wp2_with fail
        go_round
        case rel => exact ⟨k + 1, by omega, by go_num, HG.out⟩
        case measure => simp [intOf]; omega
      | true =>
        rw [hp] at hgo hix
        cases hq : Q k with
        | true =>
          rw [hq] at c2 hgo
          have HG := Lib.hid (hgo (fun _ => rfl))
          clear hgo hbad hp hq
          go_wp2_with fail
          go_round
          case rel => exact ⟨k + 1, by omega, by go_num, HG.out⟩
          case measure => simp [intOf]; omega
        | false =>
          rw [hq] at c2
          have hl := hbad hp hq
          have HR : Hid (res = false) := Lib.hid (by rw [← HRES.out]; unfold less; rw [hl]; rfl)
          clear hgo hbad hp hq hl
          go_wp2_with fail
          go_ret
          exact ⟨by rw [HR.out]; rfl, hb⟩
    · obtain rfl : k = 10 := by omega
      have hl := lessP_true HALL.out
      have HRV : Hid (V.all (U.contains ·) = res) := Lib.hid (by rw [← HRES.out]; unfold less; rw [hl]; rfl)
      clear hl
      have CS := Lib.hid (fun w' h => setOf_any A' c' U w' h hn' hU)
      go_wp2_with fail
      with_reducible refine (CS.out _ (hr'.at' hb)).mono ?_
      rintro e w1 ⟨rfl, hset, b1⟩
      have hb1 := below_cat hb b1
      have v1 := (b1.cell (p := ⟨w.heap.size, 11, none⟩) hs0).trans v1
      have hz := b1.size
      have hz0 : w.heap.size < w1.heap.size := by omega
      have hset2 := hset.below (below_new (Below.refl _ w1) (.cells #[.map (some W0.heap.size)] 47))
      have hb2 := below_new hb1 (.cells #[.map (some W0.heap.size)] 47)
      have hbox := heap_alloc_new w1 (.cells #[.map (some W0.heap.size)] 47)
      have CC := containsFunc_any A c V 33 #[.pointer (some ⟨w1.heap.size, 0, none⟩)] (fun x => !U.contains x) (w1.alloc (.cells #[.map (some W0.heap.size)] 47)) (enters_of Try.func33 (by kernel_rfl) rfl) (hr.at' hb2) hn (fun W x hx hW => by
        refine lessC_any w1.heap.size W0.heap.size U.length U x W ?_ (hset2.below hW) (hV x hx)
        have hc : (w1.alloc (.cells #[.map (some W0.heap.size)] 47)).cell? ⟨w1.heap.size, 0, none⟩ = some (.map (some W0.heap.size)) := by
          simp only [World.cell?, hbox]; rfl
        exact (hW.cell (p := ⟨w1.heap.size, 0, none⟩) (by simp)).trans hc)
      have hall : V.any (fun x => !U.contains x) = !V.all (U.contains ·) := by
        rw [List.not_all_eq_any_not]
      rw [hall, HRV.out] at CC
      have CC := Lib.hid CC
      clear hall hbox hset hset2
      go_wp2_with fail
      with_reducible refine CC.out.mono ?_
      rintro e w2 ⟨rfl, b2⟩
      have hb3 := below_cat hb2 b2
      go_wp2_with fail
      go_ret
      exact ⟨by simp, hb3⟩
end Go.Proofs.Ytnjaepdlfnidfaa.GrantM
