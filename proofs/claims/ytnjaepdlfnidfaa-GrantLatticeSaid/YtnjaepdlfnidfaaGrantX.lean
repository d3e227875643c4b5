/- The walks of what compares and tells: hasVendor, SameInts, SameConsent, May, MayOf. -/
import Derived.Test.YtnjaepdlfnidfaaGrantW
import Derived.Test.YtnjaepdlfnidfaaShelf
import Derived.Laws.StructEq
import Derived.ChangeKeysEq
namespace Go.Proofs.Ytnjaepdlfnidfaa.GrantX
open Go.RowKit Mem Scan GrantP GrantW

theorem takeI (V : List Int) (k : Nat) (h : k < V.length) : V.take (k + 1) = V.take k ++ [V.getD k 0] := by
  rw [List.take_succ_eq_append_getElem h, List.getD_eq_getElem?_getD, List.getElem?_eq_getElem h]; rfl
theorem containsI (V : List Int) (k : Nat) (h : k < V.length) (v : Int) (e : V.getD k 0 = v) : V.contains v = true := by
  rw [List.contains_iff_mem, ← e, List.getD_eq_getElem?_getD, List.getElem?_eq_getElem h]
  exact List.getElem_mem h
set_option maxHeartbeats 2000000 in
theorem hasVendor_any (A : Option Addr) (c : Nat) (V : List Int) (v : Int) (w : World) (hr : Row w w.heap.size A (intV V)) (hn : V.length ≤ 4611686018427387904) :
    Calls Try.prog 27 #[.slice A V.length c, .int .i64 v] w (fun e w' => e = .returned (.bool (V.contains v)) ∧ w = w') := by
  generalize hres : V.contains v = res
  have HRES := Lib.hid hres
  clear hres
  go_enter Try.func27, Try.ntmps27
  go_wp2_with fail
  go_loop [5] (fun i => ∃ k : Nat, k ≤ V.length ∧ i = .int .i64 k ∧ (V.take k).contains v = false) (fun i => V.length - (intOf i).toNat)
  case atStart => exact ⟨0, Nat.zero_le _, rfl, rfl⟩
  case round =>
    obtain ⟨k, hk, rfl, hs⟩ := hrel
    have HS := Lib.hid hs
    clear hs
    by_cases hlt : k < V.length
    · obtain ⟨b, o, rfl, hbB, hcs⟩ := ints_open hr (by omega)
      have c0 := hcs k hlt
      have hyes := containsI V k hlt v
      have htk := takeI V k hlt
      have i1 : (0 : Int) ≤ (k : Int) := by omega
      have i2 : (k : Int) < (V.length : Int) := by omega
      clear hcs
      generalize V.getD k 0 = x at c0 hyes htk
      by_cases hx : x = v
      · have e1 : (x == v) = true := by simpa using hx
        have HR := Lib.hid (HRES.out.symm.trans (hyes hx))
        clear hyes htk hx
        go_wp2_with fail
        go_ret
        exact ⟨by rw [HR.out]; rfl, rfl⟩
      · have e1 : (x == v) = false := by simpa using hx
        have HN : Hid ((V.take (k + 1)).contains v = false) := Lib.hid (by
          rw [htk, List.contains_eq_any_beq, List.any_append, ← List.contains_eq_any_beq, HS.out]
          have : (v == x) = false := by rw [beq_eq_false_iff_ne]; exact fun e => hx e.symm
          simp [this])
        clear hyes htk hx
        go_wp2_with fail
        go_round
        case rel => exact ⟨k + 1, by omega, by go_num, HN.out⟩
        case measure => simp [intOf]; omega
    · obtain rfl : k = V.length := by omega
      have h1 := HS.out
      rw [List.take_length] at h1
      have HR := Lib.hid (HRES.out.symm.trans h1)
      clear h1
      go_wp2_with fail
      go_ret
      exact ⟨by rw [HR.out]; rfl, rfl⟩
set_option maxHeartbeats 2000000 in
theorem sameInts_any (A : Option Addr) (c : Nat) (V : List Int) (A' : Option Addr) (c' : Nat) (U : List Int) (w : World) (hr : Row w w.heap.size A (intV V)) (hr' : Row w w.heap.size A' (intV U)) (hn : V.length ≤ 4611686018427387904) (hn' : U.length ≤ 4611686018427387904) :
    Calls Try.prog 29 #[.slice A V.length c, .slice A' U.length c'] w (Gives (.bool (decide (V = U))) w) := by
  by_cases hl : V.length = U.length
  · have hb : ((V.length : Int) != (U.length : Int)) = false := by simp [hl]
    have HL := Lib.hid hl; clear hl
    go_enter Try.func29, Try.ntmps29
    go_wp2_with fail
    go_loopw [5] (fun i wr => ∃ k q : Nat, k ≤ V.length ∧ i = .int .i64 k ∧ V.take k = U.take k ∧ wr = w.drewN q) (fun i _ => V.length - (intOf i).toNat)
    case atStart => exact ⟨0, 0, Nat.zero_le _, rfl, rfl, rfl⟩
    case round =>
      obtain ⟨k, q, hk, rfl, hpre, rfl⟩ := hrel
      have HP := Lib.hid hpre; clear hpre
      by_cases hlt : k < V.length
      · have hlt' : k < U.length := by have := HL.out; omega
        obtain ⟨b, o, rfl, hbB, hcs⟩ := ints_open hr (by omega)
        obtain ⟨b', o', rfl, hbB', hcs'⟩ := ints_open hr' (by omega)
        have c1 := hcs k hlt
        have c2 := hcs' k hlt'
        have t1 := takeI V k hlt
        have t2 := takeI U k hlt'
        have hne : V = U → V.getD k 0 = U.getD k 0 := fun e => by rw [e]
        generalize V.getD k 0 = s at c1 t1 hne
        generalize U.getD k 0 = t at c2 t2 hne
        have T1 := Lib.hid t1; have T2 := Lib.hid t2; have HNE := Lib.hid hne; clear t1 t2 hne hcs hcs'
        have hw1 : (0 : Int) ≤ (k : Int) := by omega
        have hw2 : (k : Int) < (V.length : Int) := by omega
        have hw3 : (k : Int) < (U.length : Int) := by omega
        by_cases hst : s = t
        · have hq : (s == t) = true := by simpa using hst
          have HE := Lib.hid hst; clear hst
          go_wp2_with fail
          go_quiet (fail)
          go_wp2_with fail
          go_roundw
          case rel => exact ⟨k + 1, _, by omega, by go_num, by rw [T1.out, T2.out, HP.out, HE.out], rfl⟩
          case measure => simp [intOf]; omega
        · have hq : (s == t) = false := by simpa using hst
          have HE := Lib.hid hst; clear hst
          go_wp2_with fail
          go_quiet (fail)
          go_wp2_with fail
          go_ret
          exact ⟨ret_bool (decide_eq_false (fun e => HE.out (HNE.out e))).symm, below_drewN (below_drewN (Below.refl _ _) q) _⟩
      · go_wp2_with fail
        go_ret
        refine ⟨ret_bool (decide_eq_true ?_).symm, below_drewN (Below.refl _ _) q⟩
        have hp := HP.out
        have h1 : k = V.length := by omega
        have h2 := HL.out
        rw [h1, List.take_length, h2, List.take_length] at hp
        exact hp
  · have hb : ((V.length : Int) != (U.length : Int)) = true := by simp; omega
    have HL := Lib.hid hl; clear hl
    go_enter Try.func29, Try.ntmps29
    go_wp2_with fail
    go_ret
    exact ⟨ret_bool (decide_eq_false (fun e => HL.out (by rw [e]))).symm, Below.refl _ _⟩
theorem eq_step (xs ys : Array Value) (i : Nat) (a b : Bool) (is : List Nat) (w : World) (hx : xs[i]? = some (.bool a)) (hy : ys[i]? = some (.bool b)) :
    (Op.eqItems 9999 4 1 xs ys (i :: is)).run Try.prog w = if a == b then (Op.eqItems 9999 4 1 xs ys is).run Try.prog w else .ok false w := by
  have p1 : (part 4 xs (i * 1)).run Try.prog w = .ok (.bool a) w := by simp [part, Try.isAgg4, hx, go_sem]
  have p2 : (part 4 ys (i * 1)).run Try.prog w = .ok (.bool b) w := by simp [part, Try.isAgg4, hy, go_sem]
  have p4 : ∀ d, (Op.equalIn (d + 1) 4 (.bool a) (.bool b)).run Try.prog w = .ok (a == b) w := fun d => by simp [Op.equalIn, run_underlying Try.underlying4]
  have p3 : (Op.equalIn 9999 4 (.bool a) (.bool b)).run Try.prog w = .ok (a == b) w := p4 9998
  simp only [Op.eqItems, Sem.run_bind, p1, p2, p3, Result.andThen_ok]
  cases a == b <;> simp
theorem same10_run (P Q : Nat → Bool) (w : World) : (Op.equalIn 10000 22 (.agg #[.bool (P 0), .bool (P 1), .bool (P 2), .bool (P 3), .bool (P 4), .bool (P 5), .bool (P 6), .bool (P 7), .bool (P 8), .bool (P 9)]) (.agg #[.bool (Q 0), .bool (Q 1), .bool (Q 2), .bool (Q 3), .bool (Q 4), .bool (Q 5), .bool (Q 6), .bool (Q 7), .bool (Q 8), .bool (Q 9)])).run Try.prog w = .ok (same10 P Q) w := by
  obtain ⟨i0, hi, hc⟩ : ∃ i, Try.prog.info? 4 = some i ∧ Try.prog.cellsOf 4 = 1 := ⟨_, rfl, by kernel_rfl⟩
  rw [run_equalIn_array w 9999 _ _ Try.underlying22 hi, hc]
  rw [show List.range 10 = [0, 1, 2, 3, 4, 5, 6, 7, 8, 9] from rfl]
  rw [eq_step _ _ 0 (P 0) (Q 0) _ _ rfl rfl, eq_step _ _ 1 (P 1) (Q 1) _ _ rfl rfl, eq_step _ _ 2 (P 2) (Q 2) _ _ rfl rfl, eq_step _ _ 3 (P 3) (Q 3) _ _ rfl rfl, eq_step _ _ 4 (P 4) (Q 4) _ _ rfl rfl, eq_step _ _ 5 (P 5) (Q 5) _ _ rfl rfl, eq_step _ _ 6 (P 6) (Q 6) _ _ rfl rfl, eq_step _ _ 7 (P 7) (Q 7) _ _ rfl rfl, eq_step _ _ 8 (P 8) (Q 8) _ _ rfl rfl, eq_step _ _ 9 (P 9) (Q 9) _ _ rfl rfl]
  unfold same10
  rw [show List.range 10 = [0, 1, 2, 3, 4, 5, 6, 7, 8, 9] from rfl]
  simp only [List.all_cons, List.all_nil, Bool.and_true]
  cases P 0 == Q 0 <;> cases P 1 == Q 1 <;> cases P 2 == Q 2 <;> cases P 3 == Q 3 <;> cases P 4 == Q 4 <;> cases P 5 == Q 5 <;> cases P 6 == Q 6 <;> cases P 7 == Q 7 <;> cases P 8 == Q 8 <;> cases P 9 == Q 9 <;> rfl
def sameC (g g' : Int) (P Q : Nat → Bool) (V U : List Int) : Bool := g == g' && same10 P Q && decide (V = U)
set_option maxRecDepth 100000 in
set_option maxHeartbeats 4000000 in
theorem sameConsent_any (g g' : Int) (P Q : Nat → Bool) (A : Option Addr) (c : Nat) (V : List Int) (A' : Option Addr) (c' : Nat) (U : List Int) (w : World) (hr : Row w w.heap.size A (intV V)) (hr' : Row w w.heap.size A' (intV U)) (hn : V.length ≤ 4611686018427387904) (hn' : U.length ≤ 4611686018427387904) :
    Calls Try.prog 18 #[conV g P A V.length c, conV g' Q A' U.length c'] w (Gives (.bool (sameC g g' P Q V U)) w) := by
  unfold sameC
  by_cases hg : g = g'
  · have e1 : (g == g') = true := by simpa using hg
    rw [e1]
    subst hg
    have hs := same10_run P Q
    cases hsp : same10 P Q with
    | false =>
      rw [hsp] at hs
      clear hsp
      go_enter Try.func18, Try.ntmps18
      go_wp2_with fail
      go_ret
      exact ⟨rfl, ((Below.refl _ _).alloc (Nat.le_refl _) _).alloc (by simp) _⟩
    | true =>
      rw [hsp] at hs
      clear hsp
      have CI := Lib.hid (fun w' h h' => sameInts_any A c V A' c' U w' h h' hn hn')
      generalize decide (V = U) = r at CI
      go_enter Try.func18, Try.ntmps18
      go_wp2_with fail
      have hb : Below w.heap.size w ((w.alloc (.cells #[.int .i64 g, .bool (P 0), .bool (P 1), .bool (P 2), .bool (P 3), .bool (P 4), .bool (P 5), .bool (P 6), .bool (P 7), .bool (P 8), .bool (P 9), .slice A V.length c] 25)).alloc (.cells #[.int .i64 g, .bool (Q 0), .bool (Q 1), .bool (Q 2), .bool (Q 3), .bool (Q 4), .bool (Q 5), .bool (Q 6), .bool (Q 7), .bool (Q 8), .bool (Q 9), .slice A' U.length c'] 25)) := ((Below.refl _ _).alloc (Nat.le_refl _) _).alloc (by simp) _
      with_reducible refine (CI.out _ (hr.at' hb) (hr'.at' hb)).mono ?_
      rintro e w1 ⟨rfl, b1⟩
      have hb1 := below_cat hb b1
      cases r
      all_goals (go_wp2_with fail)
      all_goals (go_ret)
      all_goals (exact ⟨rfl, hb1⟩)
  · have e1 : (g == g') = false := by simpa using hg
    rw [e1]
    go_enter Try.func18, Try.ntmps18
    go_wp2_with fail
    go_ret
    exact ⟨rfl, ((Below.refl _ _).alloc (Nat.le_refl _) _).alloc (by simp) _⟩
end Go.Proofs.Ytnjaepdlfnidfaa.GrantX
