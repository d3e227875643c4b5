/- Public suffixes: which one, by the reference. -/
import Derived.Test.YtkgdkpiacencjaaDoorSufR
namespace Go.Proofs.YtkgdkpiacencjaaDoor.SufQ
open Go.RowKit Mem Abs HostP HostO HostA HostB HostC HostD HostE HostF HostG TreeW WordP WordS Globs SufP SufW SufR

/-- What the reference has found: so far, and at the one in hand. -/
def got (x : List UInt8) (b : Bool) (d : List UInt8) : List UInt8 := if x = [] then (if b then d else []) else x
theorem got_len {x d : List UInt8} {b : Bool} (hx : x = [] ∨ d.length < x.length) : got x b d = [] ∨ d.length ≤ (got x b d).length := by
  unfold got
  rcases hx with rfl | hx
  · cases b
    · exact .inl rfl
    · exact .inr (Nat.le_refl _)
  · have : x ≠ [] := fun e => by subst e; simp at hx
    rw [if_neg this]; exact .inr (by omega)
theorem got_up {E d : List UInt8} {b : Bool} : got E (b || true) d = if got E b d = [] then d else got E b d := by
  unfold got
  by_cases hE : E = []
  · cases b
    · simp [hE]
    · simp [hE]
  · simp [hE]
theorem got_same {E d : List UInt8} {b : Bool} : got E (b || false) d = got E b d := by rw [Bool.or_false]
theorem rIn_on {L : List Suffix} {i : Nat} {r : Suffix} {kd : Int} {d : List UInt8} (h : L[i]? = some r) : rIn (L.take (i + 1)) kd d = (rIn (L.take i) kd d || decide (r.kind = kd ∧ r.name = d)) := by
  obtain ⟨hi, rfl⟩ := List.getElem?_eq_some_iff.1 h
  unfold rIn
  rw [List.take_succ_eq_append_getElem hi]
  obtain ⟨a, b⟩ := L[i]
  by_cases h1 : (⟨kd, d⟩ : Suffix) ∈ L.take i
  · simp [h1]
  · simp [h1, eq_comm]
theorem bIn_on {L : List Suffix} {i : Nat} {r : Suffix} {d : List UInt8} (h : L[i]? = some r) : bIn (L.take (i + 1)) d = (bIn (L.take i) d || (decide (r.kind = 1 ∧ r.name = d) || decide (r.kind = 2 ∧ r.name = up d))) := by
  unfold bIn
  rw [rIn_on h, rIn_on h]
  cases rIn (L.take i) 1 d <;> cases rIn (L.take i) 2 (up d) <;> simp
def fndD (p : List UInt8 → Bool) (xs : List (List UInt8)) : List UInt8 := (xs.find? p).getD []
theorem fnd_on {p : List UInt8 → Bool} {d : List UInt8} {xs : List (List UInt8)} {k : Nat} (e : xs[k]? = some d) (hne : ∀ x ∈ xs, x ≠ []) : fndD p (xs.take (k + 1)) = got (fndD p (xs.take k)) (p d) d := by
  unfold fndD got
  rw [find_on e]
  cases hf : (xs.take k).find? p with
  | none =>
    simp only [Option.none_or, Option.getD_none, if_true]
    cases p d <;> rfl
  | some x =>
    have : x ≠ [] := hne x (List.mem_of_mem_take (List.mem_of_find?_eq_some hf))
    simp [this]
theorem fnd_short {h d : List UInt8} {p : List UInt8 → Bool} {k : Nat} (e : (ch h)[k]? = some d) : fndD p ((ch h).take k) = [] ∨ d.length < (fndD p ((ch h).take k)).length := by
  unfold fndD
  cases hf : ((ch h).take k).find? p with
  | none => exact .inl rfl
  | some x =>
    obtain ⟨i, h1, _, _⟩ := find_idx.1 hf
    have hik : i < k := by
      have := (List.getElem?_eq_some_iff.1 h1).1
      simp at this; omega
    rw [List.getElem?_take_of_lt hik] at h1
    exact .inr (ch_short hik h1 e)
theorem pub_ref {L : List Suffix} {h : List UInt8} (ha : address h = false) (hne : ∀ x ∈ ch h, x ≠ []) : pubF L h = if fndD (rIn L 3) (ch h) ≠ [] then up (fndD (rIn L 3) (ch h)) else if fndD (bIn L) (ch h) = [] then lastD h (ch h) else fndD (bIn L) (ch h) := by
  unfold pubF fndD lastD
  rw [ha]
  simp only [Bool.false_eq_true, if_false]
  cases hf : (ch h).find? (rIn L 3) with
  | some x =>
    have : x ≠ [] := hne x (List.mem_of_find?_eq_some hf)
    simp [this]
  | none =>
    cases hg : (ch h).find? (bIn L) with
    | none => simp
    | some x =>
      have : x ≠ [] := hne x (List.mem_of_find?_eq_some hg)
      simp [this]
set_option maxRecDepth 100000 in
set_option maxHeartbeats 4000000 in
theorem publicOf_v {L : List Suffix} {h : List UInt8} (hh : Hst h) : ACalls Tryd.prog 60 [sufT L, strT h] (strT (pubF L h)) := ACalls.lim fun hl => by
  have hlim := (fro_lim hl).1
  have hlen := hh.len
  have c1 := isAddress_v (l := h) (by omega)
  have hx : ((L.map Suffix.v).length : Int) = (L.length : Int) := by simp
  have h00 : ([] : List UInt8).length = 0 := rfl
  cases ha : address h with
  | true =>
    have e : pubF L h = [] := by unfold pubF; rw [ha]; rfl
    rw [e]
    rw [ha] at c1
    refine fun2 tb_ok Tryd.func60 rfl Tryd.ntmps60 Tryd.results60 rfl fun N => ?_
    repeat' (first
        | with_reducible first | refine awp_seq ?_ | refine awp_region ?_ | refine awp_draw mixed ?_ | refine then_n ?_ | refine awp_skip ?_ | refine awp_block ?_ | refine awp_exit ?_ | refine awp_ret ?_ | refine awp_label ?_ | refine then_exit ?_ | refine then_ret ?_ | refine blk_n ?_ | refine blk_ret ?_ | refine blk_exit ?_ | refine blk_other rfl ?_ | refine then_k ?_
        | refine awp_true rfl ?_
        | refine awp_false rfl ?_
        | refine awp_split rfl (fun hb => ?_) (fun hb => ?_)
        | (refine isR ?_; first | refine x_far [] tb_ok rfl ?_ | refine r_nil ?_ | refine r_nild (by kernel_rfl) ?_ | refine x_call (c1 _) ?_ | refine x_call (c1) ?_ | refine x_addE ?_ | refine x_add ?_ | refine x_subE ?_ | refine x_sub ?_ | refine x_cat ?_ | refine x_lenF tb_ok ?_ | refine x_lenO tb_ok ?_ | refine x_lenN tb_ok ?_ | refine x_lenS ?_ | refine x_lssT ?_ | refine x_lssF ?_ | refine x_lss (fun hc => ?_) (fun hc => ?_) | refine x_gtrT ?_ | refine x_gtrF ?_ | refine x_gtr (fun hc => ?_) (fun hc => ?_) | refine x_eqlT ?_ | refine x_eqlF ?_ | refine x_eql (fun hc => ?_) (fun hc => ?_) | refine x_neqT ?_ | refine x_neqF ?_ | refine x_neq (fun hc => ?_) (fun hc => ?_) | refine x_eqlB ?_ | refine x_eqlST ?_ | refine x_eqlSF ?_ | refine x_eqlS (fun hc => ?_) (fun hc => ?_) | refine x_eqlI ?_ | refine x_eqlN ?_ | refine x_neqB ?_ | refine x_neqST ?_ | refine x_neqSF ?_ | refine x_neqS (fun hc => ?_) (fun hc => ?_) | refine x_neqI ?_ | refine x_neqN ?_ | refine x_iaF tb_ok ?_ | refine x_iaO tb_ok ?_ | refine x_iaA tb_ok ?_ | refine x_iaAF tb_ok ?_ | refine x_eqlA tb_ok ?_ | refine x_eqlAS tb_ok (fun hc => ?_) (fun hc => ?_) | refine x_neqA tb_ok ?_ | refine x_neqAS tb_ok (fun hc => ?_) (fun hc => ?_))
        | refine x_ret ?_
        | refine x_nor ?_
        | exact x_le)
    rfl
  | false =>
    rw [ha] at c1
    have c2 := upsOf_v' (l := h) (by omega)
    rw [ups_ch hh.ne ha] at c2
    have hne : ∀ x ∈ ch h, x ≠ [] := fun x hx => (hh.mem hx).ne
    have hcl := ch_len h
    have hpub := pub_ref (L := L) ha hne
    have hs3 := fun k d => fnd_short (h := h) (d := d) (p := rIn L 3) (k := k)
    have hsB := fun k d => fnd_short (h := h) (d := d) (p := bIn L) (k := k)
    have hpos : 0 < (ch h).length := by simp [ch]
    generalize pubF L h = p at *
    generalize ch h = xs at *
    have hxs : ((xs.map strT).length : Int) = (xs.length : Int) := by simp
    refine fun2 tb_ok Tryd.func60 rfl Tryd.ntmps60 Tryd.results60 rfl fun N => ?_
    repeat' (first
        | with_reducible first | refine awp_seq ?_ | refine awp_region ?_ | refine awp_draw mixed ?_ | refine then_n ?_ | refine awp_skip ?_ | refine awp_block ?_ | refine awp_exit ?_ | refine awp_ret ?_ | refine awp_label ?_ | refine then_exit ?_ | refine then_ret ?_ | refine blk_n ?_ | refine blk_ret ?_ | refine blk_exit ?_ | refine blk_other rfl ?_ | refine then_k ?_
        | refine awp_true rfl ?_
        | refine awp_false rfl ?_
        | refine awp_split rfl (fun hb => ?_) (fun hb => ?_)
        | (refine isR ?_; first | refine x_far [] tb_ok rfl ?_ | refine r_nil ?_ | refine r_nild (by kernel_rfl) ?_ | refine x_call (c1 _) ?_ | refine x_call (c1) ?_ | refine x_call (c2 _) ?_ | refine x_call (c2) ?_ | refine x_addE ?_ | refine x_add ?_ | refine x_subE ?_ | refine x_sub ?_ | refine x_cat ?_ | refine x_lenF tb_ok ?_ | refine x_lenO tb_ok ?_ | refine x_lenN tb_ok ?_ | refine x_lenS ?_ | refine x_lssT ?_ | refine x_lssF ?_ | refine x_lss (fun hc => ?_) (fun hc => ?_) | refine x_gtrT ?_ | refine x_gtrF ?_ | refine x_gtr (fun hc => ?_) (fun hc => ?_) | refine x_eqlT ?_ | refine x_eqlF ?_ | refine x_eql (fun hc => ?_) (fun hc => ?_) | refine x_neqT ?_ | refine x_neqF ?_ | refine x_neq (fun hc => ?_) (fun hc => ?_) | refine x_eqlB ?_ | refine x_eqlST ?_ | refine x_eqlSF ?_ | refine x_eqlS (fun hc => ?_) (fun hc => ?_) | refine x_eqlI ?_ | refine x_eqlN ?_ | refine x_neqB ?_ | refine x_neqST ?_ | refine x_neqSF ?_ | refine x_neqS (fun hc => ?_) (fun hc => ?_) | refine x_neqI ?_ | refine x_neqN ?_ | refine x_iaF tb_ok ?_ | refine x_iaO tb_ok ?_ | refine x_iaA tb_ok ?_ | refine x_iaAF tb_ok ?_ | refine x_eqlA tb_ok ?_ | refine x_eqlAS tb_ok (fun hc => ?_) (fun hc => ?_) | refine x_neqA tb_ok ?_ | refine x_neqAS tb_ok (fun hc => ?_) (fun hc => ?_))
        | refine x_ret ?_
        | refine x_nor ?_
        | exact x_le)
    refine awp_for (fun k => ⟨[(0, sufT L), (1, strT h), (5, strT (fndD (rIn L 3) (xs.take k))), (6, strT (fndD (bIn L) (xs.take k))), (7, strsT xs), (8, .int .i64 (k : Int))], [], 0, 114⟩) (fun k => k ≤ xs.length) xs.length 0 (by exact x_le) (Nat.zero_le _) ?_
    intro k hk
    by_cases hk2 : k < xs.length
    · have e1 : (xs.map strT)[k]? = some (strT xs[k]) := by simp [hk2]
      have e2 : xs[k]? = some xs[k] := by simp [hk2]
      generalize xs[k] = d at e1 e2
      have hd := hne d (List.mem_of_getElem? e2)
      have hdp : 0 < d.length := List.length_pos_iff.2 hd
      have hs3 := hs3 k d e2
      have hsB := hsB k d e2
      have o3 := fnd_on (p := rIn L 3) e2 hne
      have oB := fnd_on (p := bIn L) e2 hne
      generalize fndD (rIn L 3) (xs.take k) = E at *
      generalize fndD (bIn L) (xs.take k) = B at *
      have c6 := behind_v (l := d)
      have s0 : got E (rIn (L.take 0) 3 d) d = E := by unfold got; by_cases hE : E = [] <;> simp [hE, rIn]
      have t0 : got B (bIn (L.take 0) d) d = B := by unfold got; by_cases hE : B = [] <;> simp [hE, bIn, rIn]
      repeat' (first
          | with_reducible first | refine awp_seq ?_ | refine awp_region ?_ | refine awp_draw mixed ?_ | refine then_n ?_ | refine awp_skip ?_ | refine awp_block ?_ | refine awp_exit ?_ | refine awp_ret ?_ | refine awp_label ?_ | refine then_exit ?_ | refine then_ret ?_ | refine blk_n ?_ | refine blk_ret ?_ | refine blk_exit ?_ | refine blk_other rfl ?_ | refine then_k ?_
          | refine awp_true rfl ?_
          | refine awp_false rfl ?_
          | refine awp_split rfl (fun hb => ?_) (fun hb => ?_)
          | (refine isR ?_; first | refine x_far [] tb_ok rfl ?_ | refine r_nil ?_ | refine r_nild (by kernel_rfl) ?_ | refine x_addE ?_ | refine x_add ?_ | refine x_subE ?_ | refine x_sub ?_ | refine x_cat ?_ | refine x_lenF tb_ok ?_ | refine x_lenO tb_ok ?_ | refine x_lenN tb_ok ?_ | refine x_lenS ?_ | refine x_lssT ?_ | refine x_lssF ?_ | refine x_lss (fun hc => ?_) (fun hc => ?_) | refine x_gtrT ?_ | refine x_gtrF ?_ | refine x_gtr (fun hc => ?_) (fun hc => ?_) | refine x_eqlT ?_ | refine x_eqlF ?_ | refine x_eql (fun hc => ?_) (fun hc => ?_) | refine x_neqT ?_ | refine x_neqF ?_ | refine x_neq (fun hc => ?_) (fun hc => ?_) | refine x_eqlB ?_ | refine x_eqlST ?_ | refine x_eqlSF ?_ | refine x_eqlS (fun hc => ?_) (fun hc => ?_) | refine x_eqlI ?_ | refine x_eqlN ?_ | refine x_neqB ?_ | refine x_neqST ?_ | refine x_neqSF ?_ | refine x_neqS (fun hc => ?_) (fun hc => ?_) | refine x_neqI ?_ | refine x_neqN ?_ | refine x_iaF tb_ok ?_ | refine x_iaO tb_ok ?_ | refine x_iaA tb_ok ?_ | refine x_iaAF tb_ok ?_ | refine x_eqlA tb_ok ?_ | refine x_eqlAS tb_ok (fun hc => ?_) (fun hc => ?_) | refine x_neqA tb_ok ?_ | refine x_neqAS tb_ok (fun hc => ?_) (fun hc => ?_))
          | refine x_ret ?_
          | refine x_nor ?_
          | exact x_le)
      refine awp_for (fun i => ⟨[(0, sufT L), (1, strT h), (5, strT (got E (rIn (L.take i) 3 d) d)), (6, strT (got B (bIn (L.take i) d) d)), (7, strsT xs), (8, .int .i64 (k : Int)), (9, .int .i64 (i : Int))], [], 0, 114⟩) (fun i => i ≤ L.length) L.length 0 ?_ (Nat.zero_le _) ?_
      · rw [s0, t0]; exact (by exact x_le)
      intro i hi
      by_cases hi2 : i < L.length
      · have f1 : (L.map Suffix.v)[i]? = some (L[i]).v := by simp [hi2]
        have f2 : L[i]? = some L[i] := by simp [hi2]
        generalize L[i] = r at f1 f2
        have u3 := rIn_on (kd := 3) (d := d) f2
        have uB := bIn_on (d := d) f2
        have l3 := got_len (b := rIn (L.take i) 3 d) hs3
        have lB := got_len (b := bIn (L.take i) d) hsB
        have g3 := got_up (E := E) (d := d) (b := rIn (L.take i) 3 d)
        have gB := got_up (E := B) (d := d) (b := bIn (L.take i) d)
        have n3 := got_same (E := E) (d := d) (b := rIn (L.take i) 3 d)
        have nB := got_same (E := B) (d := d) (b := bIn (L.take i) d)
        rw [u3, uB]
        generalize got E (rIn (L.take i) 3 d) d = x at *
        generalize got B (bIn (L.take i) d) d = y at *
        have hlx : x = [] → x.length = 0 := fun e => by rw [e]; rfl
        have hly : y = [] → y.length = 0 := fun e => by rw [e]; rfl
        by_cases k3 : r.kind = 3
        · have q1 : decide (r.kind = 1 ∧ r.name = d) = false := by rw [k3]; simp
          have q2 : decide (r.kind = 2 ∧ r.name = up d) = false := by rw [k3]; simp
          rw [q1, q2, Bool.or_self, nB]
          by_cases hn : r.name = d
          · rw [show decide (r.kind = 3 ∧ r.name = d) = true by simp [k3, hn], g3]
            by_cases hx0 : x = []
            · have := hlx hx0
              rw [if_pos hx0]
              repeat' (first
                  | with_reducible first | refine awp_seq ?_ | refine awp_region ?_ | refine awp_draw mixed ?_ | refine then_n ?_ | refine awp_skip ?_ | refine awp_block ?_ | refine awp_exit ?_ | refine awp_ret ?_ | refine awp_label ?_ | refine then_exit ?_ | refine then_ret ?_ | refine blk_n ?_ | refine blk_ret ?_ | refine blk_exit ?_ | refine blk_other rfl ?_ | refine then_k ?_
                  | refine awp_true rfl ?_
                  | refine awp_false rfl ?_
                  | refine awp_split rfl (fun hb => ?_) (fun hb => ?_)
                  | (refine isR ?_; first | refine x_far [] tb_ok rfl ?_ | refine r_nil ?_ | refine r_nild (by kernel_rfl) ?_ | refine x_addE ?_ | refine x_add ?_ | refine x_subE ?_ | refine x_sub ?_ | refine x_cat ?_ | refine x_lenF tb_ok ?_ | refine x_lenO tb_ok ?_ | refine x_lenN tb_ok ?_ | refine x_lenS ?_ | refine x_lssT ?_ | refine x_lssF ?_ | refine x_lss (fun hc => ?_) (fun hc => ?_) | refine x_gtrT ?_ | refine x_gtrF ?_ | refine x_gtr (fun hc => ?_) (fun hc => ?_) | refine x_eqlT ?_ | refine x_eqlF ?_ | refine x_eql (fun hc => ?_) (fun hc => ?_) | refine x_neqT ?_ | refine x_neqF ?_ | refine x_neq (fun hc => ?_) (fun hc => ?_) | refine x_eqlB ?_ | refine x_eqlST ?_ | refine x_eqlSF ?_ | refine x_eqlS (fun hc => ?_) (fun hc => ?_) | refine x_eqlI ?_ | refine x_eqlN ?_ | refine x_neqB ?_ | refine x_neqST ?_ | refine x_neqSF ?_ | refine x_neqS (fun hc => ?_) (fun hc => ?_) | refine x_neqI ?_ | refine x_neqN ?_ | refine x_iaF tb_ok ?_ | refine x_iaO tb_ok ?_ | refine x_iaA tb_ok ?_ | refine x_iaAF tb_ok ?_ | refine x_eqlA tb_ok ?_ | refine x_eqlAS tb_ok (fun hc => ?_) (fun hc => ?_) | refine x_neqA tb_ok ?_ | refine x_neqAS tb_ok (fun hc => ?_) (fun hc => ?_))
                  | refine x_ret ?_
                  | refine x_nor ?_
                  | exact x_le)
              exact ⟨by omega, hi2, (by exact x_le)⟩
            · have := l3.resolve_left hx0
              rw [if_neg hx0]
              repeat' (first
                  | with_reducible first | refine awp_seq ?_ | refine awp_region ?_ | refine awp_draw mixed ?_ | refine then_n ?_ | refine awp_skip ?_ | refine awp_block ?_ | refine awp_exit ?_ | refine awp_ret ?_ | refine awp_label ?_ | refine then_exit ?_ | refine then_ret ?_ | refine blk_n ?_ | refine blk_ret ?_ | refine blk_exit ?_ | refine blk_other rfl ?_ | refine then_k ?_
                  | refine awp_true rfl ?_
                  | refine awp_false rfl ?_
                  | refine awp_split rfl (fun hb => ?_) (fun hb => ?_)
                  | (refine isR ?_; first | refine x_far [] tb_ok rfl ?_ | refine r_nil ?_ | refine r_nild (by kernel_rfl) ?_ | refine x_addE ?_ | refine x_add ?_ | refine x_subE ?_ | refine x_sub ?_ | refine x_cat ?_ | refine x_lenF tb_ok ?_ | refine x_lenO tb_ok ?_ | refine x_lenN tb_ok ?_ | refine x_lenS ?_ | refine x_lssT ?_ | refine x_lssF ?_ | refine x_lss (fun hc => ?_) (fun hc => ?_) | refine x_gtrT ?_ | refine x_gtrF ?_ | refine x_gtr (fun hc => ?_) (fun hc => ?_) | refine x_eqlT ?_ | refine x_eqlF ?_ | refine x_eql (fun hc => ?_) (fun hc => ?_) | refine x_neqT ?_ | refine x_neqF ?_ | refine x_neq (fun hc => ?_) (fun hc => ?_) | refine x_eqlB ?_ | refine x_eqlST ?_ | refine x_eqlSF ?_ | refine x_eqlS (fun hc => ?_) (fun hc => ?_) | refine x_eqlI ?_ | refine x_eqlN ?_ | refine x_neqB ?_ | refine x_neqST ?_ | refine x_neqSF ?_ | refine x_neqS (fun hc => ?_) (fun hc => ?_) | refine x_neqI ?_ | refine x_neqN ?_ | refine x_iaF tb_ok ?_ | refine x_iaO tb_ok ?_ | refine x_iaA tb_ok ?_ | refine x_iaAF tb_ok ?_ | refine x_eqlA tb_ok ?_ | refine x_eqlAS tb_ok (fun hc => ?_) (fun hc => ?_) | refine x_neqA tb_ok ?_ | refine x_neqAS tb_ok (fun hc => ?_) (fun hc => ?_))
                  | refine x_ret ?_
                  | refine x_nor ?_
                  | exact x_le)
              exact ⟨by omega, hi2, (by exact x_le)⟩
          · rw [show decide (r.kind = 3 ∧ r.name = d) = false by simp [hn], n3]
            repeat' (first
                | with_reducible first | refine awp_seq ?_ | refine awp_region ?_ | refine awp_draw mixed ?_ | refine then_n ?_ | refine awp_skip ?_ | refine awp_block ?_ | refine awp_exit ?_ | refine awp_ret ?_ | refine awp_label ?_ | refine then_exit ?_ | refine then_ret ?_ | refine blk_n ?_ | refine blk_ret ?_ | refine blk_exit ?_ | refine blk_other rfl ?_ | refine then_k ?_
                | refine awp_true rfl ?_
                | refine awp_false rfl ?_
                | refine awp_split rfl (fun hb => ?_) (fun hb => ?_)
                | (refine isR ?_; first | refine x_far [] tb_ok rfl ?_ | refine r_nil ?_ | refine r_nild (by kernel_rfl) ?_ | refine x_addE ?_ | refine x_add ?_ | refine x_subE ?_ | refine x_sub ?_ | refine x_cat ?_ | refine x_lenF tb_ok ?_ | refine x_lenO tb_ok ?_ | refine x_lenN tb_ok ?_ | refine x_lenS ?_ | refine x_lssT ?_ | refine x_lssF ?_ | refine x_lss (fun hc => ?_) (fun hc => ?_) | refine x_gtrT ?_ | refine x_gtrF ?_ | refine x_gtr (fun hc => ?_) (fun hc => ?_) | refine x_eqlT ?_ | refine x_eqlF ?_ | refine x_eql (fun hc => ?_) (fun hc => ?_) | refine x_neqT ?_ | refine x_neqF ?_ | refine x_neq (fun hc => ?_) (fun hc => ?_) | refine x_eqlB ?_ | refine x_eqlST ?_ | refine x_eqlSF ?_ | refine x_eqlS (fun hc => ?_) (fun hc => ?_) | refine x_eqlI ?_ | refine x_eqlN ?_ | refine x_neqB ?_ | refine x_neqST ?_ | refine x_neqSF ?_ | refine x_neqS (fun hc => ?_) (fun hc => ?_) | refine x_neqI ?_ | refine x_neqN ?_ | refine x_iaF tb_ok ?_ | refine x_iaO tb_ok ?_ | refine x_iaA tb_ok ?_ | refine x_iaAF tb_ok ?_ | refine x_eqlA tb_ok ?_ | refine x_eqlAS tb_ok (fun hc => ?_) (fun hc => ?_) | refine x_neqA tb_ok ?_ | refine x_neqAS tb_ok (fun hc => ?_) (fun hc => ?_))
                | refine x_ret ?_
                | refine x_nor ?_
                | exact x_le)
            exact ⟨by omega, hi2, (by exact x_le)⟩
        · rw [show decide (r.kind = 3 ∧ r.name = d) = false by simp [k3], n3]
          by_cases k1 : r.kind = 1
          · rw [show decide (r.kind = 2 ∧ r.name = up d) = false by rw [k1]; simp, Bool.or_false]
            by_cases hn : r.name = d
            · rw [show decide (r.kind = 1 ∧ r.name = d) = true by simp [k1, hn], gB]
              by_cases hy0 : y = []
              · have := hly hy0
                rw [if_pos hy0]
                repeat' (first
                    | with_reducible first | refine awp_seq ?_ | refine awp_region ?_ | refine awp_draw mixed ?_ | refine then_n ?_ | refine awp_skip ?_ | refine awp_block ?_ | refine awp_exit ?_ | refine awp_ret ?_ | refine awp_label ?_ | refine then_exit ?_ | refine then_ret ?_ | refine blk_n ?_ | refine blk_ret ?_ | refine blk_exit ?_ | refine blk_other rfl ?_ | refine then_k ?_
                    | refine awp_true rfl ?_
                    | refine awp_false rfl ?_
                    | refine awp_split rfl (fun hb => ?_) (fun hb => ?_)
                    | (refine isR ?_; first | refine x_far [] tb_ok rfl ?_ | refine r_nil ?_ | refine r_nild (by kernel_rfl) ?_ | refine x_addE ?_ | refine x_add ?_ | refine x_subE ?_ | refine x_sub ?_ | refine x_cat ?_ | refine x_lenF tb_ok ?_ | refine x_lenO tb_ok ?_ | refine x_lenN tb_ok ?_ | refine x_lenS ?_ | refine x_lssT ?_ | refine x_lssF ?_ | refine x_lss (fun hc => ?_) (fun hc => ?_) | refine x_gtrT ?_ | refine x_gtrF ?_ | refine x_gtr (fun hc => ?_) (fun hc => ?_) | refine x_eqlT ?_ | refine x_eqlF ?_ | refine x_eql (fun hc => ?_) (fun hc => ?_) | refine x_neqT ?_ | refine x_neqF ?_ | refine x_neq (fun hc => ?_) (fun hc => ?_) | refine x_eqlB ?_ | refine x_eqlST ?_ | refine x_eqlSF ?_ | refine x_eqlS (fun hc => ?_) (fun hc => ?_) | refine x_eqlI ?_ | refine x_eqlN ?_ | refine x_neqB ?_ | refine x_neqST ?_ | refine x_neqSF ?_ | refine x_neqS (fun hc => ?_) (fun hc => ?_) | refine x_neqI ?_ | refine x_neqN ?_ | refine x_iaF tb_ok ?_ | refine x_iaO tb_ok ?_ | refine x_iaA tb_ok ?_ | refine x_iaAF tb_ok ?_ | refine x_eqlA tb_ok ?_ | refine x_eqlAS tb_ok (fun hc => ?_) (fun hc => ?_) | refine x_neqA tb_ok ?_ | refine x_neqAS tb_ok (fun hc => ?_) (fun hc => ?_))
                    | refine x_ret ?_
                    | refine x_nor ?_
                    | exact x_le)
                exact ⟨by omega, hi2, (by exact x_le)⟩
              · have := lB.resolve_left hy0
                rw [if_neg hy0]
                repeat' (first
                    | with_reducible first | refine awp_seq ?_ | refine awp_region ?_ | refine awp_draw mixed ?_ | refine then_n ?_ | refine awp_skip ?_ | refine awp_block ?_ | refine awp_exit ?_ | refine awp_ret ?_ | refine awp_label ?_ | refine then_exit ?_ | refine then_ret ?_ | refine blk_n ?_ | refine blk_ret ?_ | refine blk_exit ?_ | refine blk_other rfl ?_ | refine then_k ?_
                    | refine awp_true rfl ?_
                    | refine awp_false rfl ?_
                    | refine awp_split rfl (fun hb => ?_) (fun hb => ?_)
                    | (refine isR ?_; first | refine x_far [] tb_ok rfl ?_ | refine r_nil ?_ | refine r_nild (by kernel_rfl) ?_ | refine x_addE ?_ | refine x_add ?_ | refine x_subE ?_ | refine x_sub ?_ | refine x_cat ?_ | refine x_lenF tb_ok ?_ | refine x_lenO tb_ok ?_ | refine x_lenN tb_ok ?_ | refine x_lenS ?_ | refine x_lssT ?_ | refine x_lssF ?_ | refine x_lss (fun hc => ?_) (fun hc => ?_) | refine x_gtrT ?_ | refine x_gtrF ?_ | refine x_gtr (fun hc => ?_) (fun hc => ?_) | refine x_eqlT ?_ | refine x_eqlF ?_ | refine x_eql (fun hc => ?_) (fun hc => ?_) | refine x_neqT ?_ | refine x_neqF ?_ | refine x_neq (fun hc => ?_) (fun hc => ?_) | refine x_eqlB ?_ | refine x_eqlST ?_ | refine x_eqlSF ?_ | refine x_eqlS (fun hc => ?_) (fun hc => ?_) | refine x_eqlI ?_ | refine x_eqlN ?_ | refine x_neqB ?_ | refine x_neqST ?_ | refine x_neqSF ?_ | refine x_neqS (fun hc => ?_) (fun hc => ?_) | refine x_neqI ?_ | refine x_neqN ?_ | refine x_iaF tb_ok ?_ | refine x_iaO tb_ok ?_ | refine x_iaA tb_ok ?_ | refine x_iaAF tb_ok ?_ | refine x_eqlA tb_ok ?_ | refine x_eqlAS tb_ok (fun hc => ?_) (fun hc => ?_) | refine x_neqA tb_ok ?_ | refine x_neqAS tb_ok (fun hc => ?_) (fun hc => ?_))
                    | refine x_ret ?_
                    | refine x_nor ?_
                    | exact x_le)
                exact ⟨by omega, hi2, (by exact x_le)⟩
            · rw [show decide (r.kind = 1 ∧ r.name = d) = false by simp [hn], nB]
              repeat' (first
                  | with_reducible first | refine awp_seq ?_ | refine awp_region ?_ | refine awp_draw mixed ?_ | refine then_n ?_ | refine awp_skip ?_ | refine awp_block ?_ | refine awp_exit ?_ | refine awp_ret ?_ | refine awp_label ?_ | refine then_exit ?_ | refine then_ret ?_ | refine blk_n ?_ | refine blk_ret ?_ | refine blk_exit ?_ | refine blk_other rfl ?_ | refine then_k ?_
                  | refine awp_true rfl ?_
                  | refine awp_false rfl ?_
                  | refine awp_split rfl (fun hb => ?_) (fun hb => ?_)
                  | (refine isR ?_; first | refine x_far [] tb_ok rfl ?_ | refine r_nil ?_ | refine r_nild (by kernel_rfl) ?_ | refine x_addE ?_ | refine x_add ?_ | refine x_subE ?_ | refine x_sub ?_ | refine x_cat ?_ | refine x_lenF tb_ok ?_ | refine x_lenO tb_ok ?_ | refine x_lenN tb_ok ?_ | refine x_lenS ?_ | refine x_lssT ?_ | refine x_lssF ?_ | refine x_lss (fun hc => ?_) (fun hc => ?_) | refine x_gtrT ?_ | refine x_gtrF ?_ | refine x_gtr (fun hc => ?_) (fun hc => ?_) | refine x_eqlT ?_ | refine x_eqlF ?_ | refine x_eql (fun hc => ?_) (fun hc => ?_) | refine x_neqT ?_ | refine x_neqF ?_ | refine x_neq (fun hc => ?_) (fun hc => ?_) | refine x_eqlB ?_ | refine x_eqlST ?_ | refine x_eqlSF ?_ | refine x_eqlS (fun hc => ?_) (fun hc => ?_) | refine x_eqlI ?_ | refine x_eqlN ?_ | refine x_neqB ?_ | refine x_neqST ?_ | refine x_neqSF ?_ | refine x_neqS (fun hc => ?_) (fun hc => ?_) | refine x_neqI ?_ | refine x_neqN ?_ | refine x_iaF tb_ok ?_ | refine x_iaO tb_ok ?_ | refine x_iaA tb_ok ?_ | refine x_iaAF tb_ok ?_ | refine x_eqlA tb_ok ?_ | refine x_eqlAS tb_ok (fun hc => ?_) (fun hc => ?_) | refine x_neqA tb_ok ?_ | refine x_neqAS tb_ok (fun hc => ?_) (fun hc => ?_))
                  | refine x_ret ?_
                  | refine x_nor ?_
                  | exact x_le)
              exact ⟨by omega, hi2, (by exact x_le)⟩
          · rw [show decide (r.kind = 1 ∧ r.name = d) = false by simp [k1], Bool.false_or]
            by_cases k2 : r.kind = 2
            · by_cases hn : r.name = up d
              · rw [show decide (r.kind = 2 ∧ r.name = up d) = true by simp [k2, hn], gB]
                by_cases hy0 : y = []
                · have := hly hy0
                  rw [if_pos hy0]
                  repeat' (first
                      | with_reducible first | refine awp_seq ?_ | refine awp_region ?_ | refine awp_draw mixed ?_ | refine then_n ?_ | refine awp_skip ?_ | refine awp_block ?_ | refine awp_exit ?_ | refine awp_ret ?_ | refine awp_label ?_ | refine then_exit ?_ | refine then_ret ?_ | refine blk_n ?_ | refine blk_ret ?_ | refine blk_exit ?_ | refine blk_other rfl ?_ | refine then_k ?_
                      | refine awp_true rfl ?_
                      | refine awp_false rfl ?_
                      | refine awp_split rfl (fun hb => ?_) (fun hb => ?_)
                      | (refine isR ?_; first | refine x_far [] tb_ok rfl ?_ | refine r_nil ?_ | refine r_nild (by kernel_rfl) ?_ | refine x_call (c6 _) ?_ | refine x_call (c6) ?_ | refine x_addE ?_ | refine x_add ?_ | refine x_subE ?_ | refine x_sub ?_ | refine x_cat ?_ | refine x_lenF tb_ok ?_ | refine x_lenO tb_ok ?_ | refine x_lenN tb_ok ?_ | refine x_lenS ?_ | refine x_lssT ?_ | refine x_lssF ?_ | refine x_lss (fun hc => ?_) (fun hc => ?_) | refine x_gtrT ?_ | refine x_gtrF ?_ | refine x_gtr (fun hc => ?_) (fun hc => ?_) | refine x_eqlT ?_ | refine x_eqlF ?_ | refine x_eql (fun hc => ?_) (fun hc => ?_) | refine x_neqT ?_ | refine x_neqF ?_ | refine x_neq (fun hc => ?_) (fun hc => ?_) | refine x_eqlB ?_ | refine x_eqlST ?_ | refine x_eqlSF ?_ | refine x_eqlS (fun hc => ?_) (fun hc => ?_) | refine x_eqlI ?_ | refine x_eqlN ?_ | refine x_neqB ?_ | refine x_neqST ?_ | refine x_neqSF ?_ | refine x_neqS (fun hc => ?_) (fun hc => ?_) | refine x_neqI ?_ | refine x_neqN ?_ | refine x_iaF tb_ok ?_ | refine x_iaO tb_ok ?_ | refine x_iaA tb_ok ?_ | refine x_iaAF tb_ok ?_ | refine x_eqlA tb_ok ?_ | refine x_eqlAS tb_ok (fun hc => ?_) (fun hc => ?_) | refine x_neqA tb_ok ?_ | refine x_neqAS tb_ok (fun hc => ?_) (fun hc => ?_))
                      | refine x_ret ?_
                      | refine x_nor ?_
                      | exact x_le)
                  exact ⟨by omega, hi2, (by exact x_le)⟩
                · have := lB.resolve_left hy0
                  rw [if_neg hy0]
                  repeat' (first
                      | with_reducible first | refine awp_seq ?_ | refine awp_region ?_ | refine awp_draw mixed ?_ | refine then_n ?_ | refine awp_skip ?_ | refine awp_block ?_ | refine awp_exit ?_ | refine awp_ret ?_ | refine awp_label ?_ | refine then_exit ?_ | refine then_ret ?_ | refine blk_n ?_ | refine blk_ret ?_ | refine blk_exit ?_ | refine blk_other rfl ?_ | refine then_k ?_
                      | refine awp_true rfl ?_
                      | refine awp_false rfl ?_
                      | refine awp_split rfl (fun hb => ?_) (fun hb => ?_)
                      | (refine isR ?_; first | refine x_far [] tb_ok rfl ?_ | refine r_nil ?_ | refine r_nild (by kernel_rfl) ?_ | refine x_call (c6 _) ?_ | refine x_call (c6) ?_ | refine x_addE ?_ | refine x_add ?_ | refine x_subE ?_ | refine x_sub ?_ | refine x_cat ?_ | refine x_lenF tb_ok ?_ | refine x_lenO tb_ok ?_ | refine x_lenN tb_ok ?_ | refine x_lenS ?_ | refine x_lssT ?_ | refine x_lssF ?_ | refine x_lss (fun hc => ?_) (fun hc => ?_) | refine x_gtrT ?_ | refine x_gtrF ?_ | refine x_gtr (fun hc => ?_) (fun hc => ?_) | refine x_eqlT ?_ | refine x_eqlF ?_ | refine x_eql (fun hc => ?_) (fun hc => ?_) | refine x_neqT ?_ | refine x_neqF ?_ | refine x_neq (fun hc => ?_) (fun hc => ?_) | refine x_eqlB ?_ | refine x_eqlST ?_ | refine x_eqlSF ?_ | refine x_eqlS (fun hc => ?_) (fun hc => ?_) | refine x_eqlI ?_ | refine x_eqlN ?_ | refine x_neqB ?_ | refine x_neqST ?_ | refine x_neqSF ?_ | refine x_neqS (fun hc => ?_) (fun hc => ?_) | refine x_neqI ?_ | refine x_neqN ?_ | refine x_iaF tb_ok ?_ | refine x_iaO tb_ok ?_ | refine x_iaA tb_ok ?_ | refine x_iaAF tb_ok ?_ | refine x_eqlA tb_ok ?_ | refine x_eqlAS tb_ok (fun hc => ?_) (fun hc => ?_) | refine x_neqA tb_ok ?_ | refine x_neqAS tb_ok (fun hc => ?_) (fun hc => ?_))
                      | refine x_ret ?_
                      | refine x_nor ?_
                      | exact x_le)
                  exact ⟨by omega, hi2, (by exact x_le)⟩
              · rw [show decide (r.kind = 2 ∧ r.name = up d) = false by simp [hn], nB]
                repeat' (first
                    | with_reducible first | refine awp_seq ?_ | refine awp_region ?_ | refine awp_draw mixed ?_ | refine then_n ?_ | refine awp_skip ?_ | refine awp_block ?_ | refine awp_exit ?_ | refine awp_ret ?_ | refine awp_label ?_ | refine then_exit ?_ | refine then_ret ?_ | refine blk_n ?_ | refine blk_ret ?_ | refine blk_exit ?_ | refine blk_other rfl ?_ | refine then_k ?_
                    | refine awp_true rfl ?_
                    | refine awp_false rfl ?_
                    | refine awp_split rfl (fun hb => ?_) (fun hb => ?_)
                    | (refine isR ?_; first | refine x_far [] tb_ok rfl ?_ | refine r_nil ?_ | refine r_nild (by kernel_rfl) ?_ | refine x_call (c6 _) ?_ | refine x_call (c6) ?_ | refine x_addE ?_ | refine x_add ?_ | refine x_subE ?_ | refine x_sub ?_ | refine x_cat ?_ | refine x_lenF tb_ok ?_ | refine x_lenO tb_ok ?_ | refine x_lenN tb_ok ?_ | refine x_lenS ?_ | refine x_lssT ?_ | refine x_lssF ?_ | refine x_lss (fun hc => ?_) (fun hc => ?_) | refine x_gtrT ?_ | refine x_gtrF ?_ | refine x_gtr (fun hc => ?_) (fun hc => ?_) | refine x_eqlT ?_ | refine x_eqlF ?_ | refine x_eql (fun hc => ?_) (fun hc => ?_) | refine x_neqT ?_ | refine x_neqF ?_ | refine x_neq (fun hc => ?_) (fun hc => ?_) | refine x_eqlB ?_ | refine x_eqlST ?_ | refine x_eqlSF ?_ | refine x_eqlS (fun hc => ?_) (fun hc => ?_) | refine x_eqlI ?_ | refine x_eqlN ?_ | refine x_neqB ?_ | refine x_neqST ?_ | refine x_neqSF ?_ | refine x_neqS (fun hc => ?_) (fun hc => ?_) | refine x_neqI ?_ | refine x_neqN ?_ | refine x_iaF tb_ok ?_ | refine x_iaO tb_ok ?_ | refine x_iaA tb_ok ?_ | refine x_iaAF tb_ok ?_ | refine x_eqlA tb_ok ?_ | refine x_eqlAS tb_ok (fun hc => ?_) (fun hc => ?_) | refine x_neqA tb_ok ?_ | refine x_neqAS tb_ok (fun hc => ?_) (fun hc => ?_))
                    | refine x_ret ?_
                    | refine x_nor ?_
                    | exact x_le)
                exact ⟨by omega, hi2, (by exact x_le)⟩
            · rw [show decide (r.kind = 2 ∧ r.name = up d) = false by simp [k2], nB]
              repeat' (first
                  | with_reducible first | refine awp_seq ?_ | refine awp_region ?_ | refine awp_draw mixed ?_ | refine then_n ?_ | refine awp_skip ?_ | refine awp_block ?_ | refine awp_exit ?_ | refine awp_ret ?_ | refine awp_label ?_ | refine then_exit ?_ | refine then_ret ?_ | refine blk_n ?_ | refine blk_ret ?_ | refine blk_exit ?_ | refine blk_other rfl ?_ | refine then_k ?_
                  | refine awp_true rfl ?_
                  | refine awp_false rfl ?_
                  | refine awp_split rfl (fun hb => ?_) (fun hb => ?_)
                  | (refine isR ?_; first | refine x_far [] tb_ok rfl ?_ | refine r_nil ?_ | refine r_nild (by kernel_rfl) ?_ | refine x_addE ?_ | refine x_add ?_ | refine x_subE ?_ | refine x_sub ?_ | refine x_cat ?_ | refine x_lenF tb_ok ?_ | refine x_lenO tb_ok ?_ | refine x_lenN tb_ok ?_ | refine x_lenS ?_ | refine x_lssT ?_ | refine x_lssF ?_ | refine x_lss (fun hc => ?_) (fun hc => ?_) | refine x_gtrT ?_ | refine x_gtrF ?_ | refine x_gtr (fun hc => ?_) (fun hc => ?_) | refine x_eqlT ?_ | refine x_eqlF ?_ | refine x_eql (fun hc => ?_) (fun hc => ?_) | refine x_neqT ?_ | refine x_neqF ?_ | refine x_neq (fun hc => ?_) (fun hc => ?_) | refine x_eqlB ?_ | refine x_eqlST ?_ | refine x_eqlSF ?_ | refine x_eqlS (fun hc => ?_) (fun hc => ?_) | refine x_eqlI ?_ | refine x_eqlN ?_ | refine x_neqB ?_ | refine x_neqST ?_ | refine x_neqSF ?_ | refine x_neqS (fun hc => ?_) (fun hc => ?_) | refine x_neqI ?_ | refine x_neqN ?_ | refine x_iaF tb_ok ?_ | refine x_iaO tb_ok ?_ | refine x_iaA tb_ok ?_ | refine x_iaAF tb_ok ?_ | refine x_eqlA tb_ok ?_ | refine x_eqlAS tb_ok (fun hc => ?_) (fun hc => ?_) | refine x_neqA tb_ok ?_ | refine x_neqAS tb_ok (fun hc => ?_) (fun hc => ?_))
                  | refine x_ret ?_
                  | refine x_nor ?_
                  | exact x_le)
              exact ⟨by omega, hi2, (by exact x_le)⟩
      · have ek : L.take i = L := List.take_of_length_le (by omega)
        rw [ek]
        rw [← o3, ← oB]
        repeat' (first
            | with_reducible first | refine awp_seq ?_ | refine awp_region ?_ | refine awp_draw mixed ?_ | refine then_n ?_ | refine awp_skip ?_ | refine awp_block ?_ | refine awp_exit ?_ | refine awp_ret ?_ | refine awp_label ?_ | refine then_exit ?_ | refine then_ret ?_ | refine blk_n ?_ | refine blk_ret ?_ | refine blk_exit ?_ | refine blk_other rfl ?_ | refine then_k ?_
            | refine awp_true rfl ?_
            | refine awp_false rfl ?_
            | refine awp_split rfl (fun hb => ?_) (fun hb => ?_)
            | (refine isR ?_; first | refine x_far [] tb_ok rfl ?_ | refine r_nil ?_ | refine r_nild (by kernel_rfl) ?_ | refine x_addE ?_ | refine x_add ?_ | refine x_subE ?_ | refine x_sub ?_ | refine x_cat ?_ | refine x_lenF tb_ok ?_ | refine x_lenO tb_ok ?_ | refine x_lenN tb_ok ?_ | refine x_lenS ?_ | refine x_lssT ?_ | refine x_lssF ?_ | refine x_lss (fun hc => ?_) (fun hc => ?_) | refine x_gtrT ?_ | refine x_gtrF ?_ | refine x_gtr (fun hc => ?_) (fun hc => ?_) | refine x_eqlT ?_ | refine x_eqlF ?_ | refine x_eql (fun hc => ?_) (fun hc => ?_) | refine x_neqT ?_ | refine x_neqF ?_ | refine x_neq (fun hc => ?_) (fun hc => ?_) | refine x_eqlB ?_ | refine x_eqlST ?_ | refine x_eqlSF ?_ | refine x_eqlS (fun hc => ?_) (fun hc => ?_) | refine x_eqlI ?_ | refine x_eqlN ?_ | refine x_neqB ?_ | refine x_neqST ?_ | refine x_neqSF ?_ | refine x_neqS (fun hc => ?_) (fun hc => ?_) | refine x_neqI ?_ | refine x_neqN ?_ | refine x_iaF tb_ok ?_ | refine x_iaO tb_ok ?_ | refine x_iaA tb_ok ?_ | refine x_iaAF tb_ok ?_ | refine x_eqlA tb_ok ?_ | refine x_eqlAS tb_ok (fun hc => ?_) (fun hc => ?_) | refine x_neqA tb_ok ?_ | refine x_neqAS tb_ok (fun hc => ?_) (fun hc => ?_))
            | refine x_ret ?_
            | refine x_nor ?_
            | exact x_le)
        exact ⟨by omega, hk2, (by exact x_le)⟩
    · have ek : xs.take k = xs := List.take_of_length_le (by omega)
      rw [ek]
      have e9 : (xs.map strT)[(((xs.map strT).length : Int) - 1).toNat]? = some (strT (lastD h xs)) := by
        rw [show (((xs.map strT).length : Int) - 1).toNat = xs.length - 1 by omega]
        unfold lastD
        rw [List.getElem?_map, List.getLast?_eq_getElem?, List.getElem?_eq_getElem (by omega)]
        rfl
      generalize fndD (rIn L 3) xs = E at *
      generalize fndD (bIn L) xs = B at *
      generalize lastD h xs = la at *
      have c6 := behind_v (l := E)
      by_cases hE : E = []
      · rw [if_neg (by simp [hE])] at hpub
        by_cases hB : B = []
        · rw [if_pos hB] at hpub
          repeat' (first
              | with_reducible first | refine awp_seq ?_ | refine awp_region ?_ | refine awp_draw mixed ?_ | refine then_n ?_ | refine awp_skip ?_ | refine awp_block ?_ | refine awp_exit ?_ | refine awp_ret ?_ | refine awp_label ?_ | refine then_exit ?_ | refine then_ret ?_ | refine blk_n ?_ | refine blk_ret ?_ | refine blk_exit ?_ | refine blk_other rfl ?_ | refine then_k ?_
              | refine awp_true rfl ?_
              | refine awp_false rfl ?_
              | refine awp_split rfl (fun hb => ?_) (fun hb => ?_)
              | (refine isR ?_; first | refine x_far [] tb_ok rfl ?_ | refine r_nil ?_ | refine r_nild (by kernel_rfl) ?_ | refine x_call (c6 _) ?_ | refine x_call (c6) ?_ | refine x_addE ?_ | refine x_add ?_ | refine x_subE ?_ | refine x_sub ?_ | refine x_cat ?_ | refine x_lenF tb_ok ?_ | refine x_lenO tb_ok ?_ | refine x_lenN tb_ok ?_ | refine x_lenS ?_ | refine x_lssT ?_ | refine x_lssF ?_ | refine x_lss (fun hc => ?_) (fun hc => ?_) | refine x_gtrT ?_ | refine x_gtrF ?_ | refine x_gtr (fun hc => ?_) (fun hc => ?_) | refine x_eqlT ?_ | refine x_eqlF ?_ | refine x_eql (fun hc => ?_) (fun hc => ?_) | refine x_neqT ?_ | refine x_neqF ?_ | refine x_neq (fun hc => ?_) (fun hc => ?_) | refine x_eqlB ?_ | refine x_eqlST ?_ | refine x_eqlSF ?_ | refine x_eqlS (fun hc => ?_) (fun hc => ?_) | refine x_eqlI ?_ | refine x_eqlN ?_ | refine x_neqB ?_ | refine x_neqST ?_ | refine x_neqSF ?_ | refine x_neqS (fun hc => ?_) (fun hc => ?_) | refine x_neqI ?_ | refine x_neqN ?_ | refine x_iaF tb_ok ?_ | refine x_iaO tb_ok ?_ | refine x_iaA tb_ok ?_ | refine x_iaAF tb_ok ?_ | refine x_eqlA tb_ok ?_ | refine x_eqlAS tb_ok (fun hc => ?_) (fun hc => ?_) | refine x_neqA tb_ok ?_ | refine x_neqAS tb_ok (fun hc => ?_) (fun hc => ?_))
              | refine x_ret ?_
              | refine x_nor ?_
              | exact x_le)
          rw [hpub]; rfl
        · rw [if_neg hB] at hpub
          repeat' (first
              | with_reducible first | refine awp_seq ?_ | refine awp_region ?_ | refine awp_draw mixed ?_ | refine then_n ?_ | refine awp_skip ?_ | refine awp_block ?_ | refine awp_exit ?_ | refine awp_ret ?_ | refine awp_label ?_ | refine then_exit ?_ | refine then_ret ?_ | refine blk_n ?_ | refine blk_ret ?_ | refine blk_exit ?_ | refine blk_other rfl ?_ | refine then_k ?_
              | refine awp_true rfl ?_
              | refine awp_false rfl ?_
              | refine awp_split rfl (fun hb => ?_) (fun hb => ?_)
              | (refine isR ?_; first | refine x_far [] tb_ok rfl ?_ | refine r_nil ?_ | refine r_nild (by kernel_rfl) ?_ | refine x_call (c6 _) ?_ | refine x_call (c6) ?_ | refine x_addE ?_ | refine x_add ?_ | refine x_subE ?_ | refine x_sub ?_ | refine x_cat ?_ | refine x_lenF tb_ok ?_ | refine x_lenO tb_ok ?_ | refine x_lenN tb_ok ?_ | refine x_lenS ?_ | refine x_lssT ?_ | refine x_lssF ?_ | refine x_lss (fun hc => ?_) (fun hc => ?_) | refine x_gtrT ?_ | refine x_gtrF ?_ | refine x_gtr (fun hc => ?_) (fun hc => ?_) | refine x_eqlT ?_ | refine x_eqlF ?_ | refine x_eql (fun hc => ?_) (fun hc => ?_) | refine x_neqT ?_ | refine x_neqF ?_ | refine x_neq (fun hc => ?_) (fun hc => ?_) | refine x_eqlB ?_ | refine x_eqlST ?_ | refine x_eqlSF ?_ | refine x_eqlS (fun hc => ?_) (fun hc => ?_) | refine x_eqlI ?_ | refine x_eqlN ?_ | refine x_neqB ?_ | refine x_neqST ?_ | refine x_neqSF ?_ | refine x_neqS (fun hc => ?_) (fun hc => ?_) | refine x_neqI ?_ | refine x_neqN ?_ | refine x_iaF tb_ok ?_ | refine x_iaO tb_ok ?_ | refine x_iaA tb_ok ?_ | refine x_iaAF tb_ok ?_ | refine x_eqlA tb_ok ?_ | refine x_eqlAS tb_ok (fun hc => ?_) (fun hc => ?_) | refine x_neqA tb_ok ?_ | refine x_neqAS tb_ok (fun hc => ?_) (fun hc => ?_))
              | refine x_ret ?_
              | refine x_nor ?_
              | exact x_le)
          rw [hpub]; rfl
      · rw [if_pos hE] at hpub
        repeat' (first
            | with_reducible first | refine awp_seq ?_ | refine awp_region ?_ | refine awp_draw mixed ?_ | refine then_n ?_ | refine awp_skip ?_ | refine awp_block ?_ | refine awp_exit ?_ | refine awp_ret ?_ | refine awp_label ?_ | refine then_exit ?_ | refine then_ret ?_ | refine blk_n ?_ | refine blk_ret ?_ | refine blk_exit ?_ | refine blk_other rfl ?_ | refine then_k ?_
            | refine awp_true rfl ?_
            | refine awp_false rfl ?_
            | refine awp_split rfl (fun hb => ?_) (fun hb => ?_)
            | (refine isR ?_; first | refine x_far [] tb_ok rfl ?_ | refine r_nil ?_ | refine r_nild (by kernel_rfl) ?_ | refine x_call (c6 _) ?_ | refine x_call (c6) ?_ | refine x_addE ?_ | refine x_add ?_ | refine x_subE ?_ | refine x_sub ?_ | refine x_cat ?_ | refine x_lenF tb_ok ?_ | refine x_lenO tb_ok ?_ | refine x_lenN tb_ok ?_ | refine x_lenS ?_ | refine x_lssT ?_ | refine x_lssF ?_ | refine x_lss (fun hc => ?_) (fun hc => ?_) | refine x_gtrT ?_ | refine x_gtrF ?_ | refine x_gtr (fun hc => ?_) (fun hc => ?_) | refine x_eqlT ?_ | refine x_eqlF ?_ | refine x_eql (fun hc => ?_) (fun hc => ?_) | refine x_neqT ?_ | refine x_neqF ?_ | refine x_neq (fun hc => ?_) (fun hc => ?_) | refine x_eqlB ?_ | refine x_eqlST ?_ | refine x_eqlSF ?_ | refine x_eqlS (fun hc => ?_) (fun hc => ?_) | refine x_eqlI ?_ | refine x_eqlN ?_ | refine x_neqB ?_ | refine x_neqST ?_ | refine x_neqSF ?_ | refine x_neqS (fun hc => ?_) (fun hc => ?_) | refine x_neqI ?_ | refine x_neqN ?_ | refine x_iaF tb_ok ?_ | refine x_iaO tb_ok ?_ | refine x_iaA tb_ok ?_ | refine x_iaAF tb_ok ?_ | refine x_eqlA tb_ok ?_ | refine x_eqlAS tb_ok (fun hc => ?_) (fun hc => ?_) | refine x_neqA tb_ok ?_ | refine x_neqAS tb_ok (fun hc => ?_) (fun hc => ?_))
            | refine x_ret ?_
            | refine x_nor ?_
            | exact x_le)
        rw [hpub]; rfl
end Go.Proofs.YtkgdkpiacencjaaDoor.SufQ
