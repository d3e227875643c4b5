/- Texts of the proof, joined: JarL, Eld, JarC, JarM. -/
import Derived.Test.YtoehdmbogdpncaaGreatDoorG9
import Derived.Test.YtoehdmbogdpncaaGreatDoorG8
import Derived.Recover
section
namespace Go.Proofs.YtoehdmbogdpncaaGreatDoor.JarL
open Go.RowKit Mem Abs Scan JarP JarQ JarA JarB

abbrev keyT (c : Cookie) : Abs.V := .agg [strT c.name, strT c.domain, strT c.path]
def ekK : Ty := (nth tb 64).get rfl
def ekI : Ty := (nth tb 3).get rfl
def ekT : Ty := (nth tb 9).get rfl
def mkS (p : Cookie × Nat) : Abs.V × Abs.V := (keyT p.1, nV p.2)
def mkN (p : Cookie × Nat) : Abs.V × Abs.V := (.int .i64 p.1.no, nV p.2)
def mkP (p : List UInt8 × Nat) : Abs.V × Abs.V := (strT p.1, nV p.2)
theorem find_by {α : Type} {ek : Ty} {f : α → Abs.V × Abs.V} {k : Abs.V} {p : α → Bool} (h : ∀ a, eqK ek k (f a).1 = p a) : ∀ (M : List α) (i : Nat), findE ek k (M.map f) i = (M.findIdx? p).map (· + i)
  | [], i => rfl
  | a :: M, i => by
    rw [List.map_cons, findE, h a, List.findIdx?_cons]
    cases p a with
    | true => simp
    | false =>
      rw [cond_false, find_by h M (i + 1)]
      cases M.findIdx? p <;> simp <;> omega
theorem eq_key (c d : Cookie) : eqK ekK (keyT c) (keyT d) = sameK d c := by
  have h : eqK ekK (keyT c) (keyT d) = (eqS (strT c.name) (strT d.name) && (eqS (strT c.domain) (strT d.domain) && (eqS (strT c.path) (strT d.path) && true))) := rfl
  rw [h, eqS_str, eqS_str, eqS_str, Bool.and_true]
  unfold sameK
  simp only [eq_comm]
theorem eq_no (c d : Cookie) : eqK ekI (.int .i64 c.no) (.int .i64 d.no) = decide (d.no = c.no) := by
  have h : eqK ekI (.int .i64 c.no) (.int .i64 d.no) = decide (c.no = d.no) := rfl
  rw [h]
  simp only [eq_comm]
theorem eq_dom (c d : List UInt8) : eqK ekT (strT c) (strT d) = decide (d = c) := by
  have h : eqK ekT (strT c) (strT d) = eqS (strT c) (strT d) := rfl
  rw [h, eqS_str]
  simp only [eq_comm]
/-- What a look-up of a key among the cookies so far finds. -/
theorem find_z {ek : Ty} {f : Cookie × Nat → Abs.V × Abs.V} {k : Abs.V} {p : Cookie → Bool} (h : ∀ a, eqK ek k (f a).1 = p a.1) (hf : ∀ a, (f a).2 = nV a.2) (M : List Cookie) :
    (findE ek k (M.zipIdx.map f) 0 = none ∧ M.any p = false) ∨ (∃ i q n, findE ek k (M.zipIdx.map f) 0 = some i ∧ (M.zipIdx.map f)[i]? = some (q, nV n) ∧ M.any p = true) := by
  have e := find_by h M.zipIdx 0
  cases hc : M.zipIdx.findIdx? (fun a => p a.1) with
  | none =>
    rw [hc] at e
    refine .inl ⟨e, ?_⟩
    rw [List.findIdx?_eq_none_iff] at hc
    rw [List.any_eq_false]
    intro x hx
    obtain ⟨i, hi⟩ := List.mem_iff_getElem?.1 hx
    have := hc (x, i) (by rw [List.mem_zipIdx_iff_getElem?]; exact hi)
    simpa using this
  | some i =>
    rw [hc] at e
    obtain ⟨hi, h1, _⟩ := List.findIdx?_eq_some_iff_getElem.1 hc
    refine .inr ⟨i, (f M.zipIdx[i]).1, (M.zipIdx[i]).2, e, ?_, ?_⟩
    · rw [List.getElem?_map, List.getElem?_eq_getElem hi, Option.map_some, ← hf]
    · rw [List.any_eq_true]
      have hi' : i < M.length := by simpa using hi
      exact ⟨M[i], List.getElem_mem hi', by simpa using h1⟩
theorem zip_on {L : List Cookie} {k : Nat} {c : Cookie} (h : L[k]? = some c) : (L.take (k + 1)).zipIdx = (L.take k).zipIdx ++ [(c, k)] := by
  have hk := (List.getElem?_eq_some_iff.1 h).1
  rw [List.take_add_one, h, List.zipIdx_append]
  have : (L.take k).length = k := by rw [List.length_take]; omega
  rw [this]
  simp
theorem any_two {α : Type} {f g : α → Bool} : ∀ l : List α, (l.any fun d => f d || g d) = (l.any f || l.any g)
  | [] => rfl
  | d :: l => by
    rw [List.any_cons, List.any_cons, List.any_cons, any_two l]
    cases f d <;> cases g d <;> cases l.any f <;> rfl
/-- How many there are of each domain. -/
structure Per (P : List (List UInt8 × Nat)) (l : List Cookie) : Prop where
  once : P.Pairwise fun p q => p.1 ≠ q.1
  count : ∀ p ∈ P, p.2 = l.countP fun c => decide (c.domain = p.1)
  all : ∀ c ∈ l, ∃ p ∈ P, p.1 = c.domain
theorem Per.find {P : List (List UInt8 × Nat)} {l : List Cookie} (h : Per P l) (d : List UInt8) : (findE ekT (strT d) (P.map mkP) 0 = none ∧ P.findIdx? (fun q => decide (q.1 = d)) = none ∧ (∀ p ∈ P, p.1 ≠ d) ∧ (l.countP fun c => decide (c.domain = d)) = 0) ∨
    (∃ i, findE ekT (strT d) (P.map mkP) 0 = some i ∧ P.findIdx? (fun q => decide (q.1 = d)) = some i ∧ P[i]? = some (d, l.countP fun c => decide (c.domain = d))) := by
  have e := find_by (f := mkP) (p := fun q => decide (q.1 = d)) (fun a => eq_dom d a.1) P 0
  cases hc : P.findIdx? (fun q => decide (q.1 = d)) with
  | none =>
    rw [hc] at e
    rw [List.findIdx?_eq_none_iff] at hc
    have hn : ∀ p ∈ P, p.1 ≠ d := fun p hp => by simpa using hc p hp
    refine .inl ⟨e, rfl, hn, ?_⟩
    rw [List.countP_eq_zero]
    intro c hcl
    obtain ⟨p, hp, hpd⟩ := h.all c hcl
    simp [← hpd, hn p hp]
  | some i =>
    rw [hc] at e
    obtain ⟨hi, h1, _⟩ := List.findIdx?_eq_some_iff_getElem.1 hc
    refine .inr ⟨i, e, rfl, ?_⟩
    have h2 : (P[i]).1 = d := by simpa using h1
    have h3 := h.count P[i] (List.getElem_mem hi)
    rw [List.getElem?_eq_getElem hi, ← h2, ← h3]
theorem Per.new {P : List (List UInt8 × Nat)} {l : List Cookie} {c : Cookie} (h : Per P l) (hn : ∀ p ∈ P, p.1 ≠ c.domain) (h0 : (l.countP fun x => decide (x.domain = c.domain)) = 0) : Per (P ++ [(c.domain, 1)]) (l ++ [c]) where
  once := by
    rw [List.pairwise_append]
    exact ⟨h.once, by simp, fun a ha b hb => by rw [List.mem_singleton] at hb; subst hb; exact hn a ha⟩
  count p hp := by
    rw [List.countP_append]
    rcases List.mem_append.1 hp with hp | hp
    · rw [h.count p hp]
      have := hn p hp
      simp [Ne.symm this]
    · rw [List.mem_singleton] at hp
      subst hp
      simp [h0]
  all x hx := by
    rcases List.mem_append.1 hx with hx | hx
    · obtain ⟨p, hp, e⟩ := h.all x hx
      exact ⟨p, List.mem_append_left _ hp, e⟩
    · rw [List.mem_singleton] at hx
      subst hx
      exact ⟨(x.domain, 1), by simp, rfl⟩
theorem Per.more {P : List (List UInt8 × Nat)} {l : List Cookie} {c : Cookie} {i n : Nat} (h : Per P l) (hi : P[i]? = some (c.domain, n)) : Per (P.set i (c.domain, n + 1)) (l ++ [c]) where
  once := by
    obtain ⟨hlt, e⟩ := List.getElem?_eq_some_iff.1 hi
    have hp := List.pairwise_iff_getElem.1 h.once
    rw [List.pairwise_iff_getElem]
    intro a b ha hb hab
    have ha' : a < P.length := by simpa using ha
    have hb' : b < P.length := by simpa using hb
    have key : ∀ j (hj : j < P.length), ((P.set i (c.domain, n + 1))[j]'(by simpa using hj)).1 = (P[j]).1 := fun j hj => by
      rw [List.getElem_set]
      split
      · rename_i q; subst q; rw [e]
      · rfl
    rw [key a ha', key b hb']
    exact hp a b ha' hb' hab
  count p hp := by
    rw [List.countP_append]
    obtain ⟨hlt, e⟩ := List.getElem?_eq_some_iff.1 hi
    obtain ⟨j, hj⟩ := List.mem_iff_getElem?.1 hp
    rw [List.getElem?_set] at hj
    have hc := h.count (c.domain, n) (List.mem_of_getElem? hi)
    by_cases q : i = j
    · subst q
      rw [if_pos rfl, if_pos hlt] at hj
      cases hj
      dsimp only at hc ⊢
      rw [← hc]
      simp
    · rw [if_neg q] at hj
      have hc2 := h.count p (List.mem_of_getElem? hj)
      obtain ⟨hlt2, e2⟩ := List.getElem?_eq_some_iff.1 hj
      have hne : p.1 ≠ c.domain := fun e3 => by
        have hp := List.pairwise_iff_getElem.1 h.once
        rcases Nat.lt_or_gt_of_ne q with q | q
        · exact hp i j hlt hlt2 q (by rw [e, e2, e3])
        · exact hp j i hlt2 hlt q (by rw [e, e2, e3])
      rw [hc2]
      simp [Ne.symm hne]
  all x hx := by
    obtain ⟨hlt, e⟩ := List.getElem?_eq_some_iff.1 hi
    rcases List.mem_append.1 hx with hx | hx
    · obtain ⟨p, hp, e1⟩ := h.all x hx
      obtain ⟨j, hj⟩ := List.mem_iff_getElem?.1 hp
      by_cases q : i = j
      · subst q
        rw [hi] at hj
        cases hj
        exact ⟨(c.domain, n + 1), List.mem_of_getElem? (i := i) (by rw [List.getElem?_set, if_pos rfl, if_pos hlt]), e1⟩
      · exact ⟨p, List.mem_of_getElem? (i := j) (by rw [List.getElem?_set, if_neg q]; exact hj), e1⟩
    · rw [List.mem_singleton] at hx
      subst hx
      exact ⟨(x.domain, n + 1), List.mem_of_getElem? (i := i) (by rw [List.getElem?_set, if_pos rfl, if_pos hlt]), rfl⟩
set_option maxRecDepth 100000 in
set_option maxHeartbeats 4000000 in
theorem keyOf_v {c : Cookie} : ACalls Tryz.prog 37 [c.v] (keyT c) := by
  refine fun1 tb_ok Tryz.func37 rfl Tryz.ntmps37 Tryz.results37 rfl fun N => ?_
  repeat' (first | refine zt ?_ | (refine isR ?_; first | refine zo ?_) | refine awp_split rfl (fun hb => ?_) (fun hb => ?_) | refine zr ?_ | exact x_le)
  all_goals rfl
abbrev stL (L : List Cookie) (nx : Int) (k : Nat) (Z : List (Cookie × Nat)) (P : List (List UInt8 × Nat)) : S := ⟨[(1, .fp (V.cells (jarV L nx)) 0), (3, .mp 0), (4, .mp 1), (5, .mp 2), (20, .fro (L.map Cookie.v)), (21, nV L.length), (22, nV k)], [(0, some (.map (Z.map mkS))), (1, some (.map (Z.map mkN))), (2, some (.map (P.map mkP)))], 3, 91⟩
def perT (L : List Cookie) : Nat → List (List UInt8 × Nat)
  | 0 => []
  | k + 1 => match L[k]? with
    | none => perT L k
    | some c => match (perT L k).findIdx? (fun q => decide (q.1 = c.domain)) with
      | none => perT L k ++ [(c.domain, 1)]
      | some i => (perT L k).set i (c.domain, perJ L c k + 1)
theorem perT_ok (L : List Cookie) : ∀ k, k ≤ L.length → Per (perT L k) (L.take k)
  | 0, _ => ⟨by simp [perT], by simp [perT], by simp⟩
  | k + 1, hk => by
    have hc : L[k]? = some L[k] := by simp
    have ih := perT_ok L k (by omega)
    rw [List.take_add_one, hc, perT, hc]
    dsimp only
    rcases ih.find (L[k]).domain with ⟨_, h2, h3, h4⟩ | ⟨i, _, h2, h3⟩
    · rw [h2]; exact ih.new h3 h4
    · rw [h2]; exact ih.more h3
set_option maxRecDepth 100000 in
set_option maxHeartbeats 4000000 in
theorem jcheck_v {L : List Cookie} {nx : Int} : ACalls Tryz.prog 12 [jarV L nx] (.int .i64 ((checkJ L nx : Nat) : Int)) := ACalls.lim fun hl => by
  have hlen : L.length ≤ 140737488355328 := by
    have := hl.1
    rw [jarV, V.Lim] at this
    have := this.1
    rw [V.Lim, List.length_map] at this
    exact this.1
  clear hl
  have hml : (L.map Cookie.v).length = L.length := List.length_map _
  by_cases h12 : 12 < L.length
  · unfold checkJ
    rw [if_pos h12]
    refine fun1 tb_ok Tryz.func12 rfl Tryz.ntmps12 Tryz.results12 rfl fun N => ?_
    repeat' (first | refine zt ?_ | (refine isR ?_; first | refine zo ?_ | refine zA ?_ | refine zL ?_ | refine zc1 ?_ | refine zc3 ?_ | refine zc4 ?_ | refine zc5 ?_ | refine zI ?_ | (refine zs1 ?_ ?_ <;> intro hc) | (refine zs3 ?_ ?_ <;> intro hc) | (refine zs4 ?_ ?_ <;> intro hc) | (refine zs5 ?_ ?_ <;> intro hc)) | refine awp_split rfl (fun hb => ?_) (fun hb => ?_) | refine zr ?_ | exact x_le)
    all_goals first | rfl | (exfalso; omega)
  have hfault : ∀ i, i < L.length → scan (codeJ L nx) i = 0 → codeJ L nx i ≠ 0 → checkJ L nx = codeJ L nx i := fun i hi h0 hc => by
    have hs := scan_stop (f := codeJ L nx) (k := i) (n := L.length) h0 hc hi
    unfold checkJ
    rw [if_neg h12, hs, if_pos hc]
  have hnext : ∀ i, scan (codeJ L nx) i = 0 → codeJ L nx i = 0 → scan (codeJ L nx) (i + 1) = 0 := fun i => scan_next (f := codeJ L nx) (k := i)
  have hend : scan (codeJ L nx) L.length = 0 → checkJ L nx = if nx < 0 ∨ 1099511627776 < nx then 3 else 0 := fun h => by
    unfold checkJ
    rw [if_neg h12, if_neg (by rw [h]; simp)]
  generalize checkJ L nx = R at *
  have hlow : L.length ≤ 1000 := by omega
  refine fun1 tb_ok Tryz.func12 rfl Tryz.ntmps12 Tryz.results12 rfl fun N => ?_
  repeat' (first | refine zt ?_ | (refine isR ?_; first | refine zo ?_ | refine zA ?_ | refine zL ?_ | refine zc1 ?_ | refine zc3 ?_ | refine zc4 ?_ | refine zc5 ?_ | refine zI ?_ | refine zM ?_ | (refine zs1 ?_ ?_ <;> intro hc) | (refine zs3 ?_ ?_ <;> intro hc) | (refine zs4 ?_ ?_ <;> intro hc) | (refine zs5 ?_ ?_ <;> intro hc)) | refine awp_split rfl (fun hb => ?_) (fun hb => ?_) | refine zr ?_ | exact x_le)
  refine awp_forN (fun i => stL L nx i (L.take i).zipIdx (perT L i)) (fun i => i ≤ L.length ∧ scan (codeJ L nx) i = 0) L.length 0 (by exact x_le) ⟨Nat.zero_le _, rfl⟩ ?_
  rintro i ⟨hi, hs⟩
  by_cases hi2 : i < L.length
  · have hx : L[i]? = some L[i] := by simp [hi2]
    have hcode := code_at (nx := nx) hx
    have hf := hfault i hi2 hs
    have hn := hnext i hs
    have hz := zip_on hx
    have hP := (perT_ok L i hi).find (L[i]).domain
    have hp1 : perT L (i + 1) = match (perT L i).findIdx? (fun q => decide (q.1 = (L[i]).domain)) with
      | none => perT L i ++ [((L[i]).domain, 1)]
      | some j => (perT L i).set j ((L[i]).domain, perJ L L[i] i + 1) := by rw [perT, hx]
    have hpe : ((L.take i).countP fun c => decide (c.domain = (L[i]).domain)) = perJ L L[i] i := rfl
    rw [hpe] at hP
    have hS := find_z (f := mkS) (k := keyT L[i]) (p := fun d => sameK d L[i]) (fun a => eq_key L[i] a.1) (fun _ => rfl) (L.take i)
    have hN := find_z (f := mkN) (k := .int .i64 (L[i]).no) (p := fun d => decide (d.no = (L[i]).no)) (fun a => eq_no L[i] a.1) (fun _ => rfl) (L.take i)
    have hzl : ((L.take i).zipIdx.map mkS).length ≤ 1000000 := by simp; omega
    have hpl := per_le L L[i] i
    have hany : (L.take i).any (fun d => sameK d L[i] || decide (d.no = (L[i]).no)) = ((L.take i).any (fun d => sameK d L[i]) || (L.take i).any fun d => decide (d.no = (L[i]).no)) := any_two _
    rw [hany] at hcode
    clear hfault hnext hend hany hpe
    generalize (L.take i).any (fun d => sameK d L[i]) = aS at *
    generalize (L.take i).any (fun d => decide (d.no = (L[i]).no)) = aN at *
    generalize perJ L L[i] i = pJ at *
    generalize hq : perT L (i + 1) = P1 at *
    generalize perT L i = P at *
    generalize (L.take (i + 1)).zipIdx = Z1 at *
    generalize (L.take i).zipIdx = Z at *
    generalize L[i] = c at *
    subst hz
    have hm := at_map (f := Cookie.v) hx
    have c1 := moments_v (c := c)
    have ck := keyOf_v (c := c)
    by_cases b1 : badM c = true
    · rw [if_pos b1] at hcode
      rw [hcode] at hf
      rw [b1] at c1
      change ACalls _ _ _ (.bool false) at c1
      obtain rfl := hf (by decide)
      rcases hS with ⟨s1, _⟩ | ⟨i1, q1, n1, s1, s2, _⟩ <;> rcases hN with ⟨r1, _⟩ | ⟨i2, q2, n2, r1, r2, _⟩
      all_goals
        skip
        repeat' (first | refine zt ?_ | (refine isR ?_; first | refine zo ?_ | refine zk ck ?_ | refine zk c1 ?_ | refine zA ?_ | refine zL ?_ | refine zc1 ?_ | refine zc3 ?_ | refine zc4 ?_ | refine zc5 ?_ | refine zI ?_ | refine zM ?_ | (refine zs1 ?_ ?_ <;> intro hc) | (refine zs3 ?_ ?_ <;> intro hc) | (refine zs4 ?_ ?_ <;> intro hc) | (refine zs5 ?_ ?_ <;> intro hc)) | refine awp_split rfl (fun hb => ?_) (fun hb => ?_) | refine zr ?_ | exact x_le)
        all_goals first | rfl | (exfalso; omega)
    rw [if_neg b1] at hcode
    have b1 : badM c = false := by simpa using b1
    rw [b1] at c1
    change ACalls _ _ _ (.bool true) at c1
    by_cases b2 : c.no < 0 ∨ nx ≤ c.no
    · rw [if_pos b2] at hcode
      rw [hcode] at hf
      obtain rfl := hf (by decide)
      rcases hS with ⟨s1, _⟩ | ⟨i1, q1, n1, s1, s2, _⟩ <;> rcases hN with ⟨r1, _⟩ | ⟨i2, q2, n2, r1, r2, _⟩
      all_goals
        skip
        repeat' (first | refine zt ?_ | (refine isR ?_; first | refine zo ?_ | refine zk ck ?_ | refine zk c1 ?_ | refine zA ?_ | refine zL ?_ | refine zc1 ?_ | refine zc3 ?_ | refine zc4 ?_ | refine zc5 ?_ | refine zI ?_ | refine zM ?_ | (refine zs1 ?_ ?_ <;> intro hc) | (refine zs3 ?_ ?_ <;> intro hc) | (refine zs4 ?_ ?_ <;> intro hc) | (refine zs5 ?_ ?_ <;> intro hc)) | refine awp_split rfl (fun hb => ?_) (fun hb => ?_) | refine zr ?_ | exact x_le)
        all_goals first | rfl | (exfalso; omega)
    rw [if_neg b2] at hcode
    have b3 : ¬ c.no < 0 := by omega
    have b4 : ¬ nx ≤ c.no := by omega
    by_cases b5 : (aS || aN) = true
    · rw [if_pos b5] at hcode
      rw [hcode] at hf
      obtain rfl := hf (by decide)
      rcases hS with ⟨s1, s3⟩ | ⟨i1, q1, n1, s1, s2, s3⟩ <;> rcases hN with ⟨r1, r3⟩ | ⟨i2, q2, n2, r1, r2, r3⟩
      · rw [s3, r3] at b5; cases b5
      all_goals
        skip
        repeat' (first | refine zt ?_ | (refine isR ?_; first | refine zo ?_ | refine zk ck ?_ | refine zk c1 ?_ | refine zA ?_ | refine zL ?_ | refine zc1 ?_ | refine zc3 ?_ | refine zc4 ?_ | refine zc5 ?_ | refine zI ?_ | refine zM ?_ | (refine zs1 ?_ ?_ <;> intro hc) | (refine zs3 ?_ ?_ <;> intro hc) | (refine zs4 ?_ ?_ <;> intro hc) | (refine zs5 ?_ ?_ <;> intro hc)) | refine awp_split rfl (fun hb => ?_) (fun hb => ?_) | refine zr ?_ | exact x_le)
        all_goals first | rfl | (exfalso; omega)
    rw [if_neg b5] at hcode
    rw [Bool.or_eq_true, not_or] at b5
    obtain ⟨s1, _⟩ | ⟨i1, q1, n1, _, _, s3⟩ := hS
    · obtain ⟨r1, _⟩ | ⟨i2, q2, n2, _, _, r3⟩ := hN
      · by_cases g4 : pJ = 4
        · rw [if_pos g4] at hcode
          rw [hcode] at hf
          obtain rfl := hf (by decide)
          obtain ⟨_, _, _, p4⟩ | ⟨j, p1, _, p3⟩ := hP
          · omega
          · have p5 : (P.map mkP)[j]? = some (strT c.domain, nV pJ) := by rw [List.getElem?_map, p3]; rfl
            rw [g4] at p5
            repeat' (first | refine zt ?_ | (refine isR ?_; first | refine zo ?_ | refine zk ck ?_ | refine zk c1 ?_ | refine zA ?_ | refine zL ?_ | refine zc1 ?_ | refine zc3 ?_ | refine zc4 ?_ | refine zc5 ?_ | refine zI ?_ | refine zM ?_ | (refine zs1 ?_ ?_ <;> intro hc) | (refine zs3 ?_ ?_ <;> intro hc) | (refine zs4 ?_ ?_ <;> intro hc) | (refine zs5 ?_ ?_ <;> intro hc)) | refine awp_split rfl (fun hb => ?_) (fun hb => ?_) | refine zr ?_ | exact x_le)
            all_goals first | rfl | (exfalso; omega)
        · rw [if_neg g4] at hcode
          have hn := hn hcode
          obtain ⟨p1, p2, p3, p4⟩ | ⟨j, p1, p2, p3⟩ := hP
          · rw [p2] at hp1
            dsimp only at hp1
            subst hp1
            repeat' (first | refine zt ?_ | (refine isR ?_; first | refine zo ?_ | refine zk ck ?_ | refine zk c1 ?_ | refine x_entNew tb_ok ?_ | refine x_entSt mkS (c, i) ?_ | refine x_putNew mkN (c, i) tb_ok ?_ | refine x_putNew mkP (c.domain, 1) tb_ok ?_ | refine zA ?_ | refine zL ?_ | refine zc1 ?_ | refine zc3 ?_ | refine zc4 ?_ | refine zc5 ?_ | refine zI ?_ | refine zM ?_ | (refine zs1 ?_ ?_ <;> intro hc) | (refine zs3 ?_ ?_ <;> intro hc) | (refine zs4 ?_ ?_ <;> intro hc) | (refine zs5 ?_ ?_ <;> intro hc)) | refine awp_split rfl (fun hb => ?_) (fun hb => ?_) | refine zr ?_ | exact x_le)
            refine ⟨⟨by omega, hn⟩, hi2, ?_⟩
            exact (by exact x_len [0, 1, 2])
          · rw [p2] at hp1
            dsimp only at hp1
            subst hp1
            have p5 : (P.map mkP)[j]? = some (strT c.domain, nV pJ) := by rw [List.getElem?_map, p3]; rfl
            repeat' (first | refine zt ?_ | (refine isR ?_; first | refine zo ?_ | refine zk ck ?_ | refine zk c1 ?_ | refine x_entNew tb_ok ?_ | refine x_entSt mkS (c, i) ?_ | refine x_putNew mkN (c, i) tb_ok ?_ | refine x_putOld mkP j (c.domain, pJ + 1) tb_ok ?_ | refine zA ?_ | refine zL ?_ | refine zc1 ?_ | refine zc3 ?_ | refine zc4 ?_ | refine zc5 ?_ | refine zI ?_ | refine zM ?_ | (refine zs1 ?_ ?_ <;> intro hc) | (refine zs3 ?_ ?_ <;> intro hc) | (refine zs4 ?_ ?_ <;> intro hc) | (refine zs5 ?_ ?_ <;> intro hc)) | refine awp_split rfl (fun hb => ?_) (fun hb => ?_) | refine zr ?_ | exact x_le)
            refine ⟨⟨by omega, hn⟩, hi2, ?_⟩
            exact (by exact x_len [0, 1, 2])
      · exact absurd r3 b5.2
    · exact absurd s3 b5.1
  · obtain rfl : i = L.length := by omega
    have he := hend hs
    by_cases g : nx < 0 ∨ 1099511627776 < nx
    · rw [if_pos g] at he
      subst he
      repeat' (first | refine zt ?_ | (refine isR ?_; first | refine zo ?_ | refine zA ?_ | refine zL ?_ | refine zc1 ?_ | refine zc3 ?_ | refine zc4 ?_ | refine zc5 ?_ | refine zI ?_ | (refine zs1 ?_ ?_ <;> intro hc) | (refine zs3 ?_ ?_ <;> intro hc) | (refine zs4 ?_ ?_ <;> intro hc) | (refine zs5 ?_ ?_ <;> intro hc)) | refine awp_split rfl (fun hb => ?_) (fun hb => ?_) | refine zr ?_ | exact x_le)
      all_goals first | rfl | (exfalso; omega)
    · rw [if_neg g] at he
      subst he
      have g1 : ¬ nx < 0 := by omega
      have g2 : ¬ 1099511627776 < nx := by omega
      repeat' (first | refine zt ?_ | (refine isR ?_; first | refine zo ?_ | refine zA ?_ | refine zL ?_ | refine zc1 ?_ | refine zc3 ?_ | refine zc4 ?_ | refine zc5 ?_ | refine zI ?_ | (refine zs1 ?_ ?_ <;> intro hc) | (refine zs3 ?_ ?_ <;> intro hc) | (refine zs4 ?_ ?_ <;> intro hc) | (refine zs5 ?_ ?_ <;> intro hc)) | refine awp_split rfl (fun hb => ?_) (fun hb => ?_) | refine zr ?_ | exact x_le)
      all_goals first | rfl | (exfalso; omega)
end Go.Proofs.YtoehdmbogdpncaaGreatDoor.JarL
end

section
namespace Go.Proofs.YtoehdmbogdpncaaGreatDoor.Abs
open Go.RowKit Mem Facts
section
variable {X A A' : Nat → Prop} {φ φ' : Nat → Pl} {w w' : World} {P : Program} {tb : List Ty} {T : Nat} {e ee e' : Ty} {N : Env} {M : Nat → Prop} {o : Oper} {s : S} {a : Act} {x y : Operand} {el : Nat} {L : List UInt8}
end
section
variable {P : Program} {N : Env} {l r : List Oper} {o : Oper} {tm : List (Nat × V)} {st : List (Nat × Option Blk)} {nx nt : Nat} {tr : List Tr} {K : S → List Tr → Prop} {tb : List Ty} {d T : Nat} {t t' : TypeId} {x y z : Operand} {a b n : Int} {p q : List UInt8} {u v : Bool} {e ee : Ty} {kd : IntKind}
theorem x_stO {α : Type} (f : α → V) {L : List α} {a1 a0 : α} {w : V} {m i0 off el sz : Nat} (j : Nat) (htb : TbOk P tb) (k : ARun P N l K r ⟨tm, (m, some (.els el sz ((L.set j a1).map f))) :: st, nx, nt⟩ (tr ++ [trOf l o ⟨[(x, .loc m i0 off), (y, w)], [(m, .els el sz (L.map f))]⟩ [(m, some (.els el sz ((L.set j a1).map f)))]])) (ho : o.op = .store t x y := by rfl) (hx : S.ev ⟨tm, st, nx, nt⟩ x = some (.loc m i0 off) := by rfl) (hy : S.ev ⟨tm, st, nx, nt⟩ y = some w := by rfl) (hg : guardV l o ⟨tm, st, nx, nt⟩ = some true := by rfl) (hd : o.dst = none := by rfl) (hB : S.blk ⟨tm, st, nx, nt⟩ m = some (.els el sz (L.map f)) := by rfl) (hT' : nth tb t = some e := by rfl) (hi : i0 = j := by omega) (hL : L[j]? = some a0 := by assumption) (h1 : w.cells.all V.one = true := by rfl) (h2 : w.cells.length = e.size := by rfl) (hp : putV (f a0) off w = some (f a1) := by rfl) (hel : (!(f a0).one || Nat.beq w.cells.length 1) = true := by rfl) : ARun P N l K (o :: r) ⟨tm, st, nx, nt⟩ tr := r_set hg hd (law_store htb ho hT' (i := i0) (el := f a0) (by subst hi; rw [List.getElem?_map, hL]; rfl) h1 h2 hp hel (by subst hi; rw [List.map_set])) (hT hx (hT hy (hN hB h0))) k
theorem x_ldO {α : Type} (f : α → V) {L : List α} {a0 : α} {w : V} {m i0 off el sz : Nat} (j : Nat) (htb : TbOk P tb) (k : ARun P N l K r ⟨(d, w) :: tm, st, nx, nt⟩ (tr ++ [trOf l o ⟨[(x, .loc m i0 off)], [(m, .els el sz (L.map f))]⟩ []])) (ho : o.op = .load t x := by rfl) (hx : S.ev ⟨tm, st, nx, nt⟩ x = some (.loc m i0 off) := by rfl) (hg : guardV l o ⟨tm, st, nx, nt⟩ = some true := by rfl) (hd : o.dst = some d := by rfl) (hlt : Nat.blt d nt = true := by rfl) (hB : S.blk ⟨tm, st, nx, nt⟩ m = some (.els el sz (L.map f)) := by rfl) (hT' : nth tb t = some e := by rfl) (hi : i0 = j := by omega) (hL : L[j]? = some a0 := by assumption) (hv : subV (f a0).cells off e.agg e.size = some w := by rfl) : ARun P N l K (o :: r) ⟨tm, st, nx, nt⟩ tr := r_val hg hd hlt (law_load htb ho hT' (i := i0) (el := f a0) (by subst hi; rw [List.getElem?_map, hL]; rfl) hv) (hT hx (hN hB h0)) k
end
end Go.Proofs.YtoehdmbogdpncaaGreatDoor.Abs
namespace Go.Proofs.YtoehdmbogdpncaaGreatDoor.Abs
open Go.RowKit Mem Facts
section
variable {P : Program} {N : Env} {c : Code} {Q : Exit → S → Prop}
theorem fro_all {α : Type} {f : α → V} {L : List α} {m : Nat} (h : L.length = m) : V.fro (List.take m (L.map f)) = V.fro (L.map f) := by
  rw [List.take_of_length_le]
  rw [List.length_map, h]
  exact Nat.le_refl _
/-- The row n of one's own is no more than what slot t holds: a frozen slice. -/
theorem awp_freeze {α : Type} {f : α → V} {L : List α} {tm : List (Nat × V)} {st : List (Nat × Option Blk)} {nx nt T sz m : Nat} (n t : Nat) (hm : m = L.length) (hf : ∀ a, (f a).names = []) (k : AWp P N c Q ⟨(t, .fro (L.map f)) :: tm, (n, none) :: st, nx, nt⟩)
    (hB : S.blk ⟨tm, st, nx, nt⟩ n = some (.els T sz (L.map f)) := by rfl) (ht : lk tm t = some (.own n 0 m) := by rfl) : AWp P N c Q ⟨tm, st, nx, nt⟩ := fun M φ a w hr => by
  let M' : Nat → Prop := fun b => M b ∧ (φ n).blk ≠ some b
  let M2 : Nat → Prop := fun b => M b ∧ (φ n).blk = some b
  let N2 : Env := ⟨⟨fun b => M' b ∨ N b, N.g⟩, 0, N.pl, N.df⟩
  have hset : ∀ b, (M2 b ∨ N2 b) ↔ (M b ∨ N b) := fun b => by
    show (M b ∧ (φ n).blk = some b) ∨ (M b ∧ (φ n).blk ≠ some b) ∨ N b ↔ _
    by_cases e : (φ n).blk = some b
    · simp [e]
    · simp [e]
  obtain ⟨hn, hbk⟩ := hr.st n _ hB
  have hbl : ∀ q, S.blk ⟨[], [(n, some (.els T sz (L.map f)))], nx, nt⟩ q = if n = q then some (.els T sz (L.map f)) else none := fun q => by
    unfold S.blk
    simp only [lk_put]
    by_cases e : n = q <;> simp [e, lk]
  have r2 : Rel N2 M2 (· < nx) φ ⟨[], [(n, some (.els T sz (L.map f)))], nx, nt⟩ a w := by
    refine ⟨fun q v hq => (by cases hq), hr.nt, fun q b hb => ?_, fun q q' b b' x e1 e2 e3 e4 => ?_, fun b hb => hr.lim b ((hset b).1 hb), fun b h1 h2 => ?_, hr.df, fun q hq => absurd hq (Nat.not_lt_zero q), ?_⟩
    · rw [hbl] at hb
      split at hb
      · rename_i e
        subst e; cases hb
        refine ⟨hn, ?_⟩
        obtain ⟨h1, h2, h3, h4, h5⟩ := hbk
        refine ⟨h1, h2, h3, h4, h5.imp id ?_⟩
        rintro ⟨b, cur, g1, g2, g3, g4, g5, g6, g7⟩
        refine ⟨b, cur, g1, ⟨g2, g1⟩, g3, g4, g5, g6, fun i j x u hx hu => ?_⟩
        obtain ⟨y, hy, hq⟩ := g7 i j x u hx hu
        exact ⟨y, hy, hq.mono (fun b _ h => (hset b).1 h) (.refl _ w) (fun _ h => h) fun _ _ => rfl⟩
      · cases hb
    · rw [hbl] at e1 e2
      split at e1
      · split at e2
        · rename_i h1 h2; exact h1 ▸ h2
        · cases e2
      · cases e1
    · rcases h2 with h2 | h2
      · exact h2.2 h1.2
      · exact hr.dis b h1.1 h2
    · exact hr.gl.sub fun b h => (hset b).1 h
  have hv := (hr.tm t _ ht)
  have hv2 : Rep (fun b => M2 b ∨ N2 b) (· < nx) φ w (.own n 0 m) (a.tmps.getD t undef) := hv.2.mono (fun b _ h => (hset b).1 h) (.refl _ w) (fun _ h => h) fun _ _ => rfl
  have hz : Fz N2 w (.fro (L.map f)) (a.tmps.getD t undef) := by
    refine r2.frz (b := fun q => if n = q then some (.els T sz (L.map f)) else none) (fun q k h => by rw [hbl]; exact h) hv2 ?_ ?_
    · show (match (if n = n then some (Blk.els T sz (L.map f)) else none) with
        | some (.els _ _ xs) => some (V.fro ((xs.drop 0).take m))
        | _ => none) = _
      rw [if_pos rfl]
      simp only [List.drop_zero]
      rw [List.take_of_length_le (by rw [List.length_map, hm]; exact Nat.le_refl _)]
    · show match (if n = n then some (Blk.els T sz (L.map f)) else none) with
        | some (.els _ _ xs) => (∀ x ∈ xs, x.names = []) ∧ 0 + m ≤ xs.length
        | _ => False
      rw [if_pos rfl]
      refine ⟨fun x hx => ?_, by rw [List.length_map, hm]; omega⟩
      obtain ⟨y, _, rfl⟩ := List.mem_map.1 hx
      exact hf y
  have hsub : ∀ b, M' b ∨ N b → M b ∨ N b := fun b h => h.imp (·.1) id
  have hbn : ∀ q, S.blk ⟨(t, .fro (L.map f)) :: tm, (n, none) :: st, nx, nt⟩ q = if n = q then none else S.blk ⟨tm, st, nx, nt⟩ q := fun q => by
    unfold S.blk
    simp only [lk_put]
    by_cases e : n = q <;> simp [e]
  have r3 : Rel N M' (· < nx) φ ⟨(t, .fro (L.map f)) :: tm, (n, none) :: st, nx, nt⟩ a w := by
    refine ⟨fun q v hq => ?_, hr.nt, fun q b hb => ?_, fun q q' b b' x e1 e2 e3 e4 => ?_, fun b hb => hr.lim b (hsub b hb), fun b h1 h2 => hr.dis b h1.1 h2, hr.df, hr.pin, hr.gl.sub hsub⟩
    · change lk ((t, .fro (L.map f)) :: tm) q = some v at hq
      rw [lk_put] at hq
      split at hq
      · rename_i e
        subst e; cases hq
        exact ⟨hv.1, .fz (hz.mono (fun b _ h => h) (.refl _ w))⟩
      · obtain ⟨g1, g2⟩ := hr.tm q v hq
        exact ⟨g1, g2.mono (fun b _ h => hsub b h) (.refl _ w) (fun _ h => h) fun _ _ => rfl⟩
    · rw [hbn] at hb
      split at hb
      · cases hb
      · rename_i hne
        obtain ⟨g1, g2⟩ := hr.st q b hb
        have hdif : ∀ y, (φ q).blk = some y → (φ n).blk ≠ some y := fun y h1 h2 => hne (hr.inj n q _ _ y hB hb h2 h1)
        refine ⟨g1, ?_⟩
        cases b with
        | els T' sz' xs =>
          obtain ⟨h1, h2, h3, h4, h5⟩ := g2
          refine ⟨h1, h2, h3, h4, h5.imp id ?_⟩
          rintro ⟨b, cur, k1, k2, k3, k4, k5, k6, k7⟩
          refine ⟨b, cur, k1, ⟨k2, hdif b k1⟩, k3, k4, k5, k6, fun i j x u hx hu => ?_⟩
          obtain ⟨y, hy, hq⟩ := k7 i j x u hx hu
          exact ⟨y, hy, hq.mono (fun b _ h => hsub b h) (.refl _ w) (fun _ h => h) fun _ _ => rfl⟩
        | map es =>
          obtain ⟨b, ents, clock, k1, k2, k3, k4, k5⟩ := g2
          exact ⟨b, ents, clock, k1, ⟨k2, hdif b k1⟩, k3, k4, fun i k v e hk he => ⟨(k5 i k v e hk he).1.mono (fun b _ h => hsub b h) (.refl _ w), (k5 i k v e hk he).2.mono (fun b _ h => hsub b h) (.refl _ w) (fun _ h => h) fun _ _ => rfl⟩⟩
        | sit s pos =>
          obtain ⟨h0, b, k1, k2, k3⟩ := g2
          exact ⟨h0, b, k1, ⟨k2, hdif b k1⟩, k3⟩
    · rw [hbn] at e1 e2
      split at e1
      · cases e1
      · split at e2
        · cases e2
        · exact hr.inj q q' b b' x e1 e2 e3 e4
  refine wp_mono (k M' φ a w r3) fun e a' w' ⟨M3, φ3, s3, h1, h2, h3, h4⟩ => ⟨M3, φ3, s3, ⟨h1.os, h1.tape, h1.output, h1.size, fun b hb hM => h1.block b hb fun h => hM h.1⟩, fun b hb h => (h2 b hb h).1, h3, h4⟩
/-- The row n that a row's struct holds in its cell i is no more than that: a frozen slice. -/
theorem awp_freezeR {α : Type} {f : α → V} {L : List α} {tm : List (Nat × V)} {st : List (Nat × Option Blk)} {nx nt T sz T2 sz2 m : Nat} {cs cs' : List V} (n2 i n : Nat) (hm : m = L.length) (hf : ∀ a, (f a).names = []) (k : AWp P N c Q ⟨tm, (n2, some (.els T2 sz2 [.agg cs'])) :: (n, none) :: st, nx, nt⟩)
    (hB2 : S.blk ⟨tm, st, nx, nt⟩ n2 = some (.els T2 sz2 [.agg cs]) := by rfl) (hi : nth cs i = some (.own n 0 m) := by rfl) (hcs : cs.set i (.fro (L.map f)) = cs' := by rfl) (hB : S.blk ⟨tm, st, nx, nt⟩ n = some (.els T sz (L.map f)) := by rfl) (hne : Nat.beq n2 n = false := by rfl) : AWp P N c Q ⟨tm, st, nx, nt⟩ := fun M φ a w hr => by
  let M' : Nat → Prop := fun b => M b ∧ (φ n).blk ≠ some b
  let M2 : Nat → Prop := fun b => M b ∧ (φ n).blk = some b
  let N2 : Env := ⟨⟨fun b => M' b ∨ N b, N.g⟩, 0, N.pl, N.df⟩
  have hnn : n2 ≠ n := fun e => by rw [e, Nat.beq_refl] at hne; cases hne
  have hset : ∀ b, (M2 b ∨ N2 b) ↔ (M b ∨ N b) := fun b => by
    show (M b ∧ (φ n).blk = some b) ∨ (M b ∧ (φ n).blk ≠ some b) ∨ N b ↔ _
    by_cases e : (φ n).blk = some b
    · simp [e]
    · simp [e]
  obtain ⟨hn, hbk⟩ := hr.st n _ hB
  have hbl : ∀ q, S.blk ⟨[], [(n, some (.els T sz (L.map f)))], nx, nt⟩ q = if n = q then some (.els T sz (L.map f)) else none := fun q => by
    unfold S.blk
    simp only [lk_put]
    by_cases e : n = q <;> simp [e, lk]
  have r2 : Rel N2 M2 (· < nx) φ ⟨[], [(n, some (.els T sz (L.map f)))], nx, nt⟩ a w := by
    refine ⟨fun q v hq => (by cases hq), hr.nt, fun q b hb => ?_, fun q q' b b' x e1 e2 e3 e4 => ?_, fun b hb => hr.lim b ((hset b).1 hb), fun b h1 h2 => ?_, hr.df, fun q hq => absurd hq (Nat.not_lt_zero q), ?_⟩
    · rw [hbl] at hb
      split at hb
      · rename_i e
        subst e; cases hb
        refine ⟨hn, ?_⟩
        obtain ⟨h1, h2, h3, h4, h5⟩ := hbk
        refine ⟨h1, h2, h3, h4, h5.imp id ?_⟩
        rintro ⟨b, cur, g1, g2, g3, g4, g5, g6, g7⟩
        refine ⟨b, cur, g1, ⟨g2, g1⟩, g3, g4, g5, g6, fun i j x u hx hu => ?_⟩
        obtain ⟨y, hy, hq⟩ := g7 i j x u hx hu
        exact ⟨y, hy, hq.mono (fun b _ h => (hset b).1 h) (.refl _ w) (fun _ h => h) fun _ _ => rfl⟩
      · cases hb
    · rw [hbl] at e1 e2
      split at e1
      · split at e2
        · rename_i h1 h2; exact h1 ▸ h2
        · cases e2
      · cases e1
    · rcases h2 with h2 | h2
      · exact h2.2 h1.2
      · exact hr.dis b h1.1 h2
    · exact hr.gl.sub fun b h => (hset b).1 h
  have hz : ∀ x, Rep (fun b => M b ∨ N b) (· < nx) φ w (.own n 0 m) x → Fz N2 w (.fro (L.map f)) x := fun x hx => by
    have hv2 : Rep (fun b => M2 b ∨ N2 b) (· < nx) φ w (.own n 0 m) x := hx.mono (fun b _ h => (hset b).1 h) (.refl _ w) (fun _ h => h) fun _ _ => rfl
    refine r2.frz (b := fun q => if n = q then some (.els T sz (L.map f)) else none) (fun q k h => by rw [hbl]; exact h) hv2 ?_ ?_
    · show (match (if n = n then some (Blk.els T sz (L.map f)) else none) with
        | some (.els _ _ xs) => some (V.fro ((xs.drop 0).take m))
        | _ => none) = _
      rw [if_pos rfl]
      simp only [List.drop_zero]
      rw [List.take_of_length_le (by rw [List.length_map, hm]; exact Nat.le_refl _)]
    · show match (if n = n then some (Blk.els T sz (L.map f)) else none) with
        | some (.els _ _ xs) => (∀ x ∈ xs, x.names = []) ∧ 0 + m ≤ xs.length
        | _ => False
      rw [if_pos rfl]
      refine ⟨fun x hx => ?_, by rw [List.length_map, hm]; omega⟩
      obtain ⟨y, _, rfl⟩ := List.mem_map.1 hx
      exact hf y
  have hsub : ∀ b, M' b ∨ N b → M b ∨ N b := fun b h => h.imp (·.1) id
  have hbn : ∀ q, S.blk ⟨tm, (n2, some (.els T2 sz2 [.agg cs'])) :: (n, none) :: st, nx, nt⟩ q = if n2 = q then some (.els T2 sz2 [.agg cs']) else if n = q then none else S.blk ⟨tm, st, nx, nt⟩ q := fun q => by
    unfold S.blk
    simp only [lk_put]
    by_cases e : n2 = q <;> by_cases e2 : n = q <;> simp [e, e2]
  have keep : ∀ q b, S.blk ⟨tm, st, nx, nt⟩ q = some b → n ≠ q → BlkAt (fun b => M b ∨ N b) M (· < nx) φ w (φ q) b → BlkAt (fun b => M' b ∨ N b) M' (· < nx) φ w (φ q) b := fun q b hb hq g2 => by
    have hdif : ∀ y, (φ q).blk = some y → (φ n).blk ≠ some y := fun y h1 h2 => hq (hr.inj n q _ _ y hB hb h2 h1)
    cases b with
    | els T' sz' xs =>
      obtain ⟨h1, h2, h3, h4, h5⟩ := g2
      refine ⟨h1, h2, h3, h4, h5.imp id ?_⟩
      rintro ⟨b, cur, k1, k2, k3, k4, k5, k6, k7⟩
      refine ⟨b, cur, k1, ⟨k2, hdif b k1⟩, k3, k4, k5, k6, fun i j x u hx hu => ?_⟩
      obtain ⟨y, hy, hq⟩ := k7 i j x u hx hu
      exact ⟨y, hy, hq.mono (fun b _ h => hsub b h) (.refl _ w) (fun _ h => h) fun _ _ => rfl⟩
    | map es =>
      obtain ⟨b, ents, clock, k1, k2, k3, k4, k5⟩ := g2
      exact ⟨b, ents, clock, k1, ⟨k2, hdif b k1⟩, k3, k4, fun i k v e hk he => ⟨(k5 i k v e hk he).1.mono (fun b _ h => hsub b h) (.refl _ w), (k5 i k v e hk he).2.mono (fun b _ h => hsub b h) (.refl _ w) (fun _ h => h) fun _ _ => rfl⟩⟩
    | sit s pos =>
      obtain ⟨h0, b, k1, k2, k3⟩ := g2
      exact ⟨h0, b, k1, ⟨k2, hdif b k1⟩, k3⟩
  obtain ⟨hn2, hb2⟩ := hr.st n2 _ hB2
  have hrow : BlkAt (fun b => M' b ∨ N b) M' (· < nx) φ w (φ n2) (.els T2 sz2 [.agg cs']) := by
    have h0 := keep n2 _ hB2 (fun e => hnn e.symm) hb2
    obtain ⟨h1, h2, h3, h4, h5⟩ := h0
    obtain ⟨_, _, _, _, o5⟩ := hb2
    rw [nth_eq] at hi
    subst hcs
    obtain ⟨q1, q2⟩ := h4 (.agg cs) (List.mem_singleton.2 rfl)
    have hlen : (cs.set i (.fro (L.map f))).length = cs.length := List.length_set
    refine ⟨h1, h2, h3, fun x hx => ?_, ?_⟩
    · rw [List.mem_singleton] at hx
      subst hx
      refine ⟨by rw [← q1]; exact hlen, fun u hu => ?_⟩
      rcases List.mem_or_eq_of_mem_set hu with hu | rfl
      · exact q2 u hu
      · rfl
    · rcases h5 with h5 | ⟨b, cur, k1, k2, k3, k4, k5, k6, k7⟩
      · cases h5.2.1
      · rcases o5 with o5 | ⟨b', cur', o1, o2, o3, o4, o6, o7, o8⟩
        · cases o5.2.1
        rw [k1] at o1
        cases o1
        rw [k3] at o3
        cases o3
        refine .inr ⟨b, cur, k1, k2, k3, k4, k5, k6, fun p j x u hx hu => ?_⟩
        rcases p with _ | p
        · cases hx
          change (cs.set i (.fro (L.map f)))[j]? = some u at hu
          by_cases hj : i = j
          · subst hj
            have hil : i < cs.length := (List.getElem?_eq_some_iff.1 hi).1
            rw [List.getElem?_set_self hil] at hu
            cases hu
            obtain ⟨y, hy, hq⟩ := o8 0 i (.agg cs) (.own n 0 m) rfl hi
            exact ⟨y, hy, .fz ((hz y hq).mono (fun b _ h => h) (.refl _ w))⟩
          · rw [List.getElem?_set_ne hj] at hu
            exact k7 0 j (.agg cs) u rfl hu
        · cases hx
  have r3 : Rel N M' (· < nx) φ ⟨tm, (n2, some (.els T2 sz2 [.agg cs'])) :: (n, none) :: st, nx, nt⟩ a w := by
    refine ⟨fun q v hq => ?_, hr.nt, fun q b hb => ?_, fun q q' b b' x e1 e2 e3 e4 => ?_, fun b hb => hr.lim b (hsub b hb), fun b h1 h2 => hr.dis b h1.1 h2, hr.df, hr.pin, hr.gl.sub hsub⟩
    · obtain ⟨g1, g2⟩ := hr.tm q v hq
      exact ⟨g1, g2.mono (fun b _ h => hsub b h) (.refl _ w) (fun _ h => h) fun _ _ => rfl⟩
    · rw [hbn] at hb
      split at hb
      · rename_i e
        subst e; cases hb
        exact ⟨hn2, hrow⟩
      · split at hb
        · cases hb
        · rename_i h1 h2
          obtain ⟨g1, g2⟩ := hr.st q b hb
          exact ⟨g1, keep q b hb h2 g2⟩
    · have old : ∀ q b, S.blk ⟨tm, (n2, some (.els T2 sz2 [.agg cs'])) :: (n, none) :: st, nx, nt⟩ q = some b → ∃ b0, S.blk ⟨tm, st, nx, nt⟩ q = some b0 := fun q b hb => by
        rw [hbn] at hb
        split at hb
        · rename_i e; subst e; exact ⟨_, hB2⟩
        · split at hb
          · cases hb
          · exact ⟨_, hb⟩
      obtain ⟨b0, e1'⟩ := old q b e1
      obtain ⟨b1, e2'⟩ := old q' b' e2
      exact hr.inj q q' b0 b1 x e1' e2' e3 e4
  refine wp_mono (k M' φ a w r3) fun e a' w' ⟨M3, φ3, s3, h1, h2, h3, h4⟩ => ⟨M3, φ3, s3, ⟨h1.os, h1.tape, h1.output, h1.size, fun b hb hM => h1.block b hb fun h => hM h.1⟩, fun b hb h => (h2 b hb h).1, h3, h4⟩
end
end Go.Proofs.YtoehdmbogdpncaaGreatDoor.Abs
namespace Go.Proofs.YtoehdmbogdpncaaGreatDoor.Abs
open Go.RowKit Mem Facts
/-- THE CONTRACT of a call that panics: of the rows that it was handed nothing is told. -/
def MPanG (P : Program) (g : Glob) (f : FuncId) (args : List V) (st : List Blk) (ch : List PanicEntry) : Prop :=
  ∀ (N M : Nat → Prop) (φ : Nat → Pl) (w : World) (vs : Array Value), RowsAt g N M (· < st.length) φ (st.map some) w → args.length = vs.size →
    (∀ (i : Nat) v x, args[i]? = some v → vs[i]? = some x → Rep (fun b => M b ∨ N b) (· < st.length) φ w v x) →
    Calls P f vs w (fun e w' => e = .panicked ch ∧ Stays M w w')
def MPan (P : Program) (f : FuncId) (args : List V) (st : List Blk) (ch : List PanicEntry) : Prop := ∀ g, MPanG P g f args st ch
def PEnd (ch : List PanicEntry) : Exit → S → Prop
  | .panic ch', _ => ch' = ch
  | _, _ => False
section
variable {P : Program} {tb : List Ty} {N : Env} {M A : Nat → Prop} {φ : Nat → Pl} {s : S} {a : Act} {w w' : World} {o : Oper} {l : List Oper} {Q : Exit → S → Prop}
/-- An operation that panics: what it changes lies in the rows ns. -/
def PanLaw (P : Program) (N : Env) (o : Oper) (fp : Fp) (ch : List PanicEntry) (ns : List Nat) : Prop :=
  ∀ s M A φ a w, Holds fp s → Rel N M A φ s a w →
    o.wp P a w (fun _ _ => False) (fun e a' w' => e = .panic ch ∧ a' = a ∧ ∃ H : Nat → Prop, (∀ b, H b → M b) ∧ (∀ n k b, s.blk n = some k → n ∉ ns → (φ n).blk = some b → ¬ H b) ∧ Stays H w w')
/-- At the state s the operation o panics, and Q holds of what is left: the rows but ns. -/
structure PanAt (P : Program) (N : Env) (l : List Oper) (o : Oper) (Q : Exit → S → Prop) (s : S) : Prop where
  ex : ∃ fp ch ns, guardV l o s = some true ∧ PanLaw P N o fp ch ns ∧ Holds fp s ∧ Q (.panic ch) ⟨s.tm, ns.map (fun n => (n, none)) ++ s.st, s.nx, s.nt⟩
end
section
variable {P : Program} {N : Env} {l : List Oper} {o : Oper} {tm : List (Nat × V)} {st : List (Nat × Option Blk)} {nx nt : Nat} {Q : Exit → S → Prop}
end
end Go.Proofs.YtoehdmbogdpncaaGreatDoor.Abs
namespace Go.Proofs.YtoehdmbogdpncaaGreatDoor.Abs
open Go.RowKit Mem Facts
section
variable {P : Program} {tb : List Ty} {N : Env} {M A : Nat → Prop} {φ : Nat → Pl} {s : S} {a : Act} {w : World} {o : Oper} {l : List Oper}
end
/-! ### The deferred call -/
section
variable {P : Program} {Q : Exit → Act → List Frame → World → Prop} {a : Act} {cs : List Frame} {w : World} {ops : Array Oper} {o : Oper} {i : Nat} {rest : List Nat}
end
/-! ### The part ahead of the deferring one -/
/-- As AWp; what stands behind is any word that is kept as the world goes on. -/
def BWp (P : Program) (N : Env) (c : Code) (J : (Nat → Prop) → (Nat → Pl) → Exit → Act → World → Prop) (s : S) : Prop :=
  ∀ M φ a w, Rel N M (· < s.nx) φ s a w → c.wp P (fun e a' w' => ∃ M' φ', Stays M w w' ∧ (∀ b, b < w.heap.size → M' b → M b) ∧ J M' φ' e a' w') a w
end Go.Proofs.YtoehdmbogdpncaaGreatDoor.Abs
end

section
namespace Go.Proofs.YtoehdmbogdpncaaGreatDoor.JarC
open Go.RowKit Mem Abs Scan JarP JarQ JarA JarB

theorem minAt_is {p : Cookie → Bool} {L : List Cookie} : ∀ {k a : Nat}, minAt p L k = some a → a < k ∧ ∃ e, L[a]? = some e ∧ p e = true
  | 0, a, h => by cases h
  | k + 1, a, h => by
    rw [minAt] at h
    cases hc : L[k]? with
    | none => rw [hc] at h; obtain ⟨h1, h2⟩ := minAt_is (k := k) h; exact ⟨by omega, h2⟩
    | some c =>
      rw [hc] at h
      dsimp only at h
      by_cases hp : p c = true
      · rw [if_pos hp] at h
        cases hm : minAt p L k with
        | none => rw [hm] at h; cases h; exact ⟨Nat.lt_succ_self k, c, hc, hp⟩
        | some b =>
          rw [hm] at h
          dsimp only at h
          split at h
          · cases h; exact ⟨Nat.lt_succ_self k, c, hc, hp⟩
          · cases h; obtain ⟨h1, h2⟩ := minAt_is (k := k) hm; exact ⟨by omega, h2⟩
      · rw [if_neg hp] at h
        obtain ⟨h1, h2⟩ := minAt_is (k := k) h
        exact ⟨by omega, h2⟩
def minI (o : Option Nat) : Int := match o with
  | none => -1
  | some a => (a : Int)
set_option maxRecDepth 100000 in
set_option maxHeartbeats 4000000 in
theorem liveOf_m {L : List Cookie} {now : Int} (hb : L.length ≤ 1000) (c0 : ∀ c : Cookie, ACalls Tryz.prog 57 [c.v, .int .i64 now] (.bool (decide (now < c.expiry)))) : MCalls Tryz.prog 32 [.fro (L.map Cookie.v), .int .i64 now] [] (.own 0 0 (liveF now L).length) [some (.els TC 13 ((liveF now L).map Cookie.v))] := by
  have hml : (L.map Cookie.v).length = L.length := List.length_map _
  refine mfun tb_ok Tryz.func32 rfl Tryz.ntmps32 Tryz.results32 rfl rfl rfl rfl fun N pl => ?_
  repeat' (first | refine zt ?_ | (refine isR ?_; first | refine zo ?_ | refine x_bs tb_ok ?_ | refine zA ?_ | refine zL ?_ | refine zc1 ?_ | refine zI ?_ | (refine zs1 ?_ ?_ <;> intro hc)) | refine awp_split rfl (fun hb => ?_) (fun hb => ?_) | refine zr ?_ | exact x_le)
  refine awp_name (t := 5) TC 13 (by decide) rfl rfl ?_
  refine awp_forN (fun k => ⟨[(0, .fro (L.map Cookie.v)), (1, .int .i64 now), (5, .own 0 0 (liveF now (L.take k)).length), (6, nV k)], [(0, some (.els TC 13 ((liveF now (L.take k)).map Cookie.v)))], 1, 27⟩) (fun k => k ≤ L.length) L.length 0 (by exact x_le) (Nat.zero_le _) ?_
  intro k hk
  by_cases hk2 : k < L.length
  · have hx : L[k]? = some L[k] := by simp [hk2]
    have ht : liveF now (L.take (k + 1)) = liveF now (L.take k) ++ if now < (L[k]).expiry then [L[k]] else [] := by
      unfold liveF
      rw [List.take_add_one, hx, List.filter_append]
      congr 1
      by_cases h : now < (L[k]).expiry <;> simp [h]
    have hl : (liveF now (L.take k)).length ≤ 1000 := Nat.le_trans (List.length_filter_le _ _) (by rw [List.length_take]; omega)
    generalize L[k] = c at *
    have hm := at_map (f := Cookie.v) hx
    have c1 := c0 c
    generalize hE : liveF now (L.take (k + 1)) = E1 at *
    generalize liveF now (L.take k) = E at *
    by_cases h : now < c.expiry
    · rw [decide_eq_true h] at c1
      rw [if_pos h] at ht
      subst ht
      repeat' (first | refine zt ?_ | (refine isR ?_; first | refine zo ?_ | refine zk c1 ?_ | refine x_app Cookie.v (a1 := (c)) tb_ok ?_ | refine x_bs tb_ok ?_ | refine zA ?_ | refine zL ?_ | refine zc1 ?_ | refine zI ?_ | (refine zs1 ?_ ?_ <;> intro hc)) | refine awp_split rfl (fun hb => ?_) (fun hb => ?_) | refine zr ?_ | exact x_le)
      refine ⟨by omega, hk2, ?_⟩
      exact (by exact x_len [1])
    · rw [decide_eq_false h] at c1
      rw [if_neg h, List.append_nil] at ht
      subst ht
      repeat' (first | refine zt ?_ | (refine isR ?_; first | refine zo ?_ | refine zk c1 ?_ | refine x_bs tb_ok ?_ | refine zA ?_ | refine zL ?_ | refine zc1 ?_ | refine zI ?_ | (refine zs1 ?_ ?_ <;> intro hc)) | refine awp_split rfl (fun hb => ?_) (fun hb => ?_) | refine zr ?_ | exact x_le)
      refine ⟨by omega, hk2, ?_⟩
      exact (by exact x_len [0])
  · obtain rfl : k = L.length := by omega
    rw [List.take_length]
    generalize liveF now L = E at *
    repeat' (first | refine zt ?_ | (refine isR ?_; first | refine zo ?_ | refine x_bs tb_ok ?_ | refine zA ?_ | refine zL ?_ | refine zc1 ?_ | refine zI ?_ | (refine zs1 ?_ ?_ <;> intro hc)) | refine awp_split rfl (fun hb => ?_) (fun hb => ?_) | refine x_mret [0] ?_ ?_ | refine x_mnor [0] ?_ ?_ | refine zr ?_ | exact x_le)
    · rfl
    · exact .on (.same (nl_map fun _ => rfl)) .nil
set_option maxRecDepth 100000 in
set_option maxHeartbeats 4000000 in
theorem without_v {L : List Cookie} {a : Nat} (hb : L.length ≤ 1000) (ha : a < L.length) : ACalls Tryz.prog 34 [.fro (L.map Cookie.v), nV a] (.fro ((L.eraseIdx a).map Cookie.v)) := by
  have hml : (L.map Cookie.v).length = L.length := List.length_map _
  have he : L.eraseIdx a = L.take a ++ L.drop (a + 1) := List.eraseIdx_eq_take_drop_succ L a
  have h1 : (L.take a).length = a := by rw [List.length_take]; omega
  have h2 : (L.drop (a + 1)).length ≤ 1000 := by rw [List.length_drop]; omega
  have ha1 : (a : Int) + 1 = ((a + 1 : Nat) : Int) := by omega
  rw [he]
  refine fun2 tb_ok Tryz.func34 rfl Tryz.ntmps34 Tryz.results34 rfl fun N => ?_
  repeat' (first | refine zt ?_ | (refine isR ?_; first | refine x_far [5] tb_ok rfl ?_ | refine zn ?_ | refine x_appK Cookie.v (L := []) (K' := L.take a) tb_ok ?_ (hlim := by simp [LIM]; omega) (hby := by show _ * (_ : Nat) ≤ _; simp; omega) | refine x_appK Cookie.v (K' := L.drop (a + 1)) tb_ok ?_ (hlim := by simp [LIM]; omega) (hby := by show _ * (_ : Nat) ≤ _; simp; omega) | refine x_bsO 5 tb_ok ?_ | refine x_bs tb_ok ?_ | refine zA ?_ | refine zS ?_) | refine awp_split rfl (fun hb => ?_) (fun hb => ?_) | refine zr ?_ | exact x_le)
  exact fro_all rfl
def ofP (d : List UInt8) (all : Bool) (c : Cookie) : Bool := all || decide (c.domain = d)
set_option maxRecDepth 100000 in
set_option maxHeartbeats 4000000 in
theorem leastUsed_v {L : List Cookie} {d : List UInt8} {all : Bool} (hb : L.length ≤ 1000) : ACalls Tryz.prog 33 [.fro (L.map Cookie.v), strT d, .bool all] (.tup [.int .i64 (minI (minAt (ofP d all) L L.length)), nV (L.countP (ofP d all))]) := by
  have hml : (L.map Cookie.v).length = L.length := List.length_map _
  refine fun3 tb_ok Tryz.func33 rfl Tryz.ntmps33 Tryz.results33 rfl fun N => ?_
  repeat' (first | refine zt ?_ | (refine isR ?_; first | refine zo ?_ | refine zA ?_ | refine zL ?_ | refine zc1 ?_ | refine zc5 ?_ | refine zc6 ?_ | refine zI ?_ | (refine zs1 ?_ ?_ <;> intro hc) | (refine zs5 ?_ ?_ <;> intro hc) | (refine zs6 ?_ ?_ <;> intro hc)) | refine awp_split rfl (fun hb => ?_) (fun hb => ?_) | refine zr ?_ | exact x_le)
  refine awp_for (fun k => ⟨[(0, .fro (L.map Cookie.v)), (1, strT d), (2, .bool all), (8, .int .i64 (minI (minAt (ofP d all) L k))), (9, nV ((L.take k).countP (ofP d all))), (10, nV k)], [], 0, 74⟩) (fun k => k ≤ L.length) L.length 0 (by exact x_le) (Nat.zero_le _) ?_
  intro k hk
  by_cases hk2 : k < L.length
  · have hx : L[k]? = some L[k] := by simp [hk2]
    have hc : (L.take (k + 1)).countP (ofP d all) = (L.take k).countP (ofP d all) + if ofP d all L[k] = true then 1 else 0 := by
      rw [List.take_add_one, hx, List.countP_append]
      by_cases h : ofP d all L[k] = true <;> simp [h]
    have hcl : (L.take k).countP (ofP d all) ≤ 1000 := Nat.le_trans List.countP_le_length (by rw [List.length_take]; omega)
    have hmn : minAt (ofP d all) L (k + 1) = if ofP d all L[k] = true then (match minAt (ofP d all) L k with
      | none => some k
      | some a => if lessU L[k] (L.getD a L[k]) = true then some k else some a) else minAt (ofP d all) L k := by
      rw [minAt, hx]
      rfl
    have his := fun a => minAt_is (p := ofP d all) (L := L) (k := k) (a := a)
    generalize L[k] = c at *
    have hm := at_map (f := Cookie.v) hx
    generalize hm1 : minAt (ofP d all) L (k + 1) = m1 at *
    generalize minAt (ofP d all) L k = m at *
    generalize hq1 : (L.take (k + 1)).countP (ofP d all) = q1 at *
    generalize (L.take k).countP (ofP d all) = q at *
    by_cases hp : ofP d all c = true
    · rw [if_pos hp] at hc hmn
      have hd : all = false → c.domain = d := fun h => by
        unfold ofP at hp
        rw [h, Bool.false_or] at hp
        exact of_decide_eq_true hp
      have hq : nV (q + 1) = .int .i64 ((q : Int) + 1) := rfl
      subst hc
      rcases m with _ | a
      · dsimp only at hmn
        subst hmn
        have h0 : minI none < 0 := by decide
        have hk0 : minI (some k) = (k : Int) := rfl
        cases all with
        | true =>
          repeat' (first | refine zt ?_ | (refine isR ?_; first | refine zo ?_ | refine zA ?_ | refine zL ?_ | refine zc1 ?_ | refine zc5 ?_ | refine zc6 ?_ | refine zI ?_ | (refine zs1 ?_ ?_ <;> intro hc) | (refine zs5 ?_ ?_ <;> intro hc) | (refine zs6 ?_ ?_ <;> intro hc)) | refine awp_split rfl (fun hb => ?_) (fun hb => ?_) | refine zr ?_ | exact x_le)
          refine ⟨by omega, hk2, ?_⟩
          exact (by exact x_le)
        | false =>
          have hd := hd rfl
          repeat' (first | refine zt ?_ | (refine isR ?_; first | refine zo ?_ | refine zA ?_ | refine zL ?_ | refine zc1 ?_ | refine zc5 ?_ | refine zc6 ?_ | refine zI ?_ | (refine zs1 ?_ ?_ <;> intro hc) | (refine zs5 ?_ ?_ <;> intro hc) | (refine zs6 ?_ ?_ <;> intro hc)) | refine awp_split rfl (fun hb => ?_) (fun hb => ?_) | refine zr ?_ | exact x_le)
          refine ⟨by omega, hk2, ?_⟩
          exact (by exact x_le)
      · obtain ⟨ha, e, he, _⟩ := his a rfl
        have hme := at_map (f := Cookie.v) he
        dsimp only at hmn
        rw [List.getD_eq_getElem?_getD, he, Option.getD_some] at hmn
        have h0 : minI (some a) = (a : Int) := rfl
        have hk0 : minI (some k) = (k : Int) := rfl
        rw [h0]
        by_cases g1 : c.used < e.used
        · rw [if_pos (by unfold lessU; rw [decide_eq_true g1]; rfl)] at hmn
          subst hmn
          cases all with
          | true =>
            repeat' (first | refine zt ?_ | (refine isR ?_; first | refine zo ?_ | refine zA ?_ | refine zL ?_ | refine zc1 ?_ | refine zc5 ?_ | refine zc6 ?_ | refine zI ?_ | (refine zs1 ?_ ?_ <;> intro hc) | (refine zs5 ?_ ?_ <;> intro hc) | (refine zs6 ?_ ?_ <;> intro hc)) | refine awp_split rfl (fun hb => ?_) (fun hb => ?_) | refine zr ?_ | exact x_le)
            refine ⟨by omega, hk2, ?_⟩
            exact (by exact x_le)
          | false =>
            have hd := hd rfl
            repeat' (first | refine zt ?_ | (refine isR ?_; first | refine zo ?_ | refine zA ?_ | refine zL ?_ | refine zc1 ?_ | refine zc5 ?_ | refine zc6 ?_ | refine zI ?_ | (refine zs1 ?_ ?_ <;> intro hc) | (refine zs5 ?_ ?_ <;> intro hc) | (refine zs6 ?_ ?_ <;> intro hc)) | refine awp_split rfl (fun hb => ?_) (fun hb => ?_) | refine zr ?_ | exact x_le)
            refine ⟨by omega, hk2, ?_⟩
            exact (by exact x_le)
        · by_cases g2 : c.used = e.used ∧ c.no < e.no
          · rw [if_pos (by unfold lessU; rw [decide_eq_true g2.1, decide_eq_true g2.2]; simp)] at hmn
            subst hmn
            obtain ⟨g3, g4⟩ := g2
            cases all with
            | true =>
              repeat' (first | refine zt ?_ | (refine isR ?_; first | refine zo ?_ | refine zA ?_ | refine zL ?_ | refine zc1 ?_ | refine zc5 ?_ | refine zc6 ?_ | refine zI ?_ | (refine zs1 ?_ ?_ <;> intro hc) | (refine zs5 ?_ ?_ <;> intro hc) | (refine zs6 ?_ ?_ <;> intro hc)) | refine awp_split rfl (fun hb => ?_) (fun hb => ?_) | refine zr ?_ | exact x_le)
              refine ⟨by omega, hk2, ?_⟩
              exact (by exact x_le)
            | false =>
              have hd := hd rfl
              repeat' (first | refine zt ?_ | (refine isR ?_; first | refine zo ?_ | refine zA ?_ | refine zL ?_ | refine zc1 ?_ | refine zc5 ?_ | refine zc6 ?_ | refine zI ?_ | (refine zs1 ?_ ?_ <;> intro hc) | (refine zs5 ?_ ?_ <;> intro hc) | (refine zs6 ?_ ?_ <;> intro hc)) | refine awp_split rfl (fun hb => ?_) (fun hb => ?_) | refine zr ?_ | exact x_le)
              refine ⟨by omega, hk2, ?_⟩
              exact (by exact x_le)
          · have g5 : lessU c e = false := by
              unfold lessU
              rw [decide_eq_false g1, Bool.false_or]
              by_cases g6 : c.used = e.used
              · rw [decide_eq_false (fun h => g2 ⟨g6, h⟩), Bool.and_false]
              · rw [decide_eq_false g6, Bool.false_and]
            rw [g5, if_neg (by decide)] at hmn
            subst hmn
            by_cases g6 : c.used = e.used
            · have g7 : ¬ c.no < e.no := fun h => g2 ⟨g6, h⟩
              cases all with
              | true =>
                repeat' (first | refine zt ?_ | (refine isR ?_; first | refine zo ?_ | refine zA ?_ | refine zL ?_ | refine zc1 ?_ | refine zc5 ?_ | refine zc6 ?_ | refine zI ?_ | (refine zs1 ?_ ?_ <;> intro hc) | (refine zs5 ?_ ?_ <;> intro hc) | (refine zs6 ?_ ?_ <;> intro hc)) | refine awp_split rfl (fun hb => ?_) (fun hb => ?_) | refine zr ?_ | exact x_le)
                refine ⟨by omega, hk2, ?_⟩
                exact (by exact x_le)
              | false =>
                have hd := hd rfl
                repeat' (first | refine zt ?_ | (refine isR ?_; first | refine zo ?_ | refine zA ?_ | refine zL ?_ | refine zc1 ?_ | refine zc5 ?_ | refine zc6 ?_ | refine zI ?_ | (refine zs1 ?_ ?_ <;> intro hc) | (refine zs5 ?_ ?_ <;> intro hc) | (refine zs6 ?_ ?_ <;> intro hc)) | refine awp_split rfl (fun hb => ?_) (fun hb => ?_) | refine zr ?_ | exact x_le)
                refine ⟨by omega, hk2, ?_⟩
                exact (by exact x_le)
            · cases all with
              | true =>
                repeat' (first | refine zt ?_ | (refine isR ?_; first | refine zo ?_ | refine zA ?_ | refine zL ?_ | refine zc1 ?_ | refine zc5 ?_ | refine zc6 ?_ | refine zI ?_ | (refine zs1 ?_ ?_ <;> intro hc) | (refine zs5 ?_ ?_ <;> intro hc) | (refine zs6 ?_ ?_ <;> intro hc)) | refine awp_split rfl (fun hb => ?_) (fun hb => ?_) | refine zr ?_ | exact x_le)
                refine ⟨by omega, hk2, ?_⟩
                exact (by exact x_le)
              | false =>
                have hd := hd rfl
                repeat' (first | refine zt ?_ | (refine isR ?_; first | refine zo ?_ | refine zA ?_ | refine zL ?_ | refine zc1 ?_ | refine zc5 ?_ | refine zc6 ?_ | refine zI ?_ | (refine zs1 ?_ ?_ <;> intro hc) | (refine zs5 ?_ ?_ <;> intro hc) | (refine zs6 ?_ ?_ <;> intro hc)) | refine awp_split rfl (fun hb => ?_) (fun hb => ?_) | refine zr ?_ | exact x_le)
                refine ⟨by omega, hk2, ?_⟩
                exact (by exact x_le)
    · rw [if_neg hp] at hc hmn
      subst hmn
      rw [Nat.add_zero] at hc
      subst hc
      cases all with
      | true => exact absurd rfl hp
      | false =>
        have hd : ¬ c.domain = d := fun h => hp (by unfold ofP; rw [decide_eq_true h]; rfl)
        repeat' (first | refine zt ?_ | (refine isR ?_; first | refine zo ?_ | refine zA ?_ | refine zL ?_ | refine zc1 ?_ | refine zc5 ?_ | refine zc6 ?_ | refine zI ?_ | (refine zs1 ?_ ?_ <;> intro hc) | (refine zs5 ?_ ?_ <;> intro hc) | (refine zs6 ?_ ?_ <;> intro hc)) | refine awp_split rfl (fun hb => ?_) (fun hb => ?_) | refine zr ?_ | exact x_le)
        refine ⟨by omega, hk2, ?_⟩
        exact (by exact x_le)
  · obtain rfl : k = L.length := by omega
    rw [List.take_length]
    repeat' (first | refine zt ?_ | (refine isR ?_; first | refine zo ?_ | refine zA ?_ | refine zL ?_ | refine zc1 ?_ | refine zc5 ?_ | refine zc6 ?_ | refine zI ?_ | (refine zs1 ?_ ?_ <;> intro hc) | (refine zs5 ?_ ?_ <;> intro hc) | (refine zs6 ?_ ?_ <;> intro hc)) | refine awp_split rfl (fun hb => ?_) (fun hb => ?_) | refine zr ?_ | exact x_le)
    rfl
end Go.Proofs.YtoehdmbogdpncaaGreatDoor.JarC
end

section
namespace Go.Proofs.YtoehdmbogdpncaaGreatDoor.JarM
open Go.RowKit Mem Abs Scan JarP JarQ JarA JarB JarC JarL

abbrev TO : Nat := 53
abbrev TP : Nat := 48
abbrev rC (L : List Cookie) : Blk := .els TC 13 (L.map Cookie.v)
abbrev rB : Blk := .els TP 1 [.loc 2 0 0]
abbrev rO (n : Nat) (nx now : Int) : Blk := .els TO 3 [.agg [.own 0 0 n, .int .i64 nx, .int .i64 now]]
abbrev fnD : Abs.V := .fn (.func 49) [] [.loc 1 0 0]
def dead (now : Int) (c : Cookie) : Bool := !decide (now < c.expiry)
set_option maxRecDepth 100000 in
set_option maxHeartbeats 4000000 in
theorem goesLive_v {c : Cookie} {now : Int} : ACalls Tryz.prog 18 [c.v, .int .i64 now] (.bool (decide (now < c.expiry))) := by
  by_cases h : now < c.expiry
  · rw [decide_eq_true h]
    refine fun2 tb_ok Tryz.func18 rfl Tryz.ntmps18 Tryz.results18 rfl fun N => ?_
    repeat' (first | refine zt ?_ | (refine isR ?_; first | refine zo ?_ | refine zc3 ?_ | (refine zs3 ?_ ?_ <;> intro hc)) | refine awp_split rfl (fun hb => ?_) (fun hb => ?_) | refine zr ?_ | exact x_le)
    all_goals rfl
  · rw [decide_eq_false h]
    refine fun2 tb_ok Tryz.func18 rfl Tryz.ntmps18 Tryz.results18 rfl fun N => ?_
    repeat' (first | refine zt ?_ | (refine isR ?_; first | refine zo ?_ | refine zc3 ?_ | (refine zs3 ?_ ?_ <;> intro hc)) | refine awp_split rfl (fun hb => ?_) (fun hb => ?_) | refine zr ?_ | exact x_le)
    all_goals rfl
set_option maxRecDepth 100000 in
set_option maxHeartbeats 4000000 in
theorem dead_m {c : Cookie} {M : List Cookie} {n : Nat} {nx now : Int} : MCalls Tryz.prog 49 [c.v, .loc 1 0 0] [rC M, rB, rO n nx now] (.bool (dead now c)) [some (rC M), some rB, some (rO n nx now)] := by
  have c1 := goesLive_v (c := c) (now := now)
  unfold dead
  generalize decide (now < c.expiry) = b at *
  refine mfun tb_ok Tryz.func49 rfl Tryz.ntmps49 Tryz.results49 rfl rfl rfl rfl fun N pl => ?_
  repeat' (first | refine zt ?_ | (refine isR ?_; first | refine zo ?_ | refine zk c1 ?_) | refine awp_split rfl (fun hb => ?_) (fun hb => ?_) | refine x_mret [0, 1, 2] ?_ ?_ | refine x_mnor [0, 1, 2] ?_ ?_ | refine zr ?_ | exact x_le)
  · rfl
  · exact .on (.same (nl_map fun _ => rfl)) (.on (.ren rfl) (.on (.ren rfl) .nil))
set_option maxRecDepth 100000 in
set_option maxHeartbeats 4000000 in
theorem idxDead_m {L : List Cookie} {n : Nat} {nx now : Int} (hb : L.length ≤ 1000) : MCalls Tryz.prog 50 [.own 0 0 L.length, fnD] [rC L, rB, rO n nx now] (.int .i64 (minI (L.findIdx? (dead now)))) [some (rC L), some rB, some (rO n nx now)] := by
  have hml : (L.map Cookie.v).length = L.length := List.length_map _
  generalize hR : minI (L.findIdx? (dead now)) = R
  refine mfun tb_ok Tryz.func50 rfl Tryz.ntmps50 Tryz.results50 rfl rfl rfl rfl fun N pl => ?_
  repeat' (first | refine zt ?_ | (refine isR ?_; first | refine zo ?_ | refine zA ?_ | refine zL ?_ | refine zc1 ?_ | refine zI ?_ | (refine zs1 ?_ ?_ <;> intro hc)) | refine awp_split rfl (fun hb => ?_) (fun hb => ?_) | refine zr ?_ | exact x_le)
  refine awp_forN (fun k => ⟨[(0, .own 0 0 L.length), (1, fnD), (7, nV L.length), (8, nV k)], [(0, some (rC L)), (1, some rB), (2, some (rO n nx now))], 3, 19⟩) (fun k => k ≤ L.length ∧ ∀ j x, j < k → L[j]? = some x → dead now x = false) L.length 0 (by exact x_le) ⟨Nat.zero_le _, fun j x h => by omega⟩ ?_
  rintro k ⟨hk, hd⟩
  by_cases hk2 : k < L.length
  · have hx : L[k]? = some L[k] := by simp [hk2]
    have c1 := dead_m (c := L[k]) (M := L) (n := n) (nx := nx) (now := now)
    have hfi : dead now L[k] = true → L.findIdx? (dead now) = some k := fun h => by
      rw [List.findIdx?_eq_some_iff_getElem]
      exact ⟨hk2, h, fun j hj => by simp [hd j (L[j]'(by omega)) hj (by simp [show j < L.length by omega])]⟩
    generalize L[k] = c at *
    have hm := at_map (f := Cookie.v) hx
    by_cases h : dead now c = true
    · rw [hfi h] at hR
      have hR : (k : Int) = R := hR
      rw [h] at c1
      repeat' (first | refine zt ?_ | (refine isR ?_; first | refine zo ?_ | refine x_ldI Cookie.v k tb_ok ?_ | refine x_mv [0,1,2] [] (c1 _) ?_ | refine x_m0v [0,1,2] [] (c1 _) ?_ | refine x_mv [0,1,2] [] (c1) ?_ | refine x_m0v [0,1,2] [] (c1) ?_ | refine zA ?_ | refine zL ?_ | refine zc1 ?_ | refine zI ?_ | (refine zs1 ?_ ?_ <;> intro hc)) | refine awp_split rfl (fun hb => ?_) (fun hb => ?_) | refine x_mret [0, 1, 2] ?_ ?_ | refine x_mnor [0, 1, 2] ?_ ?_ | refine zr ?_ | exact x_le)
      · rw [← hR]; rfl
      · exact .on (.same (nl_map fun _ => rfl)) (.on (.ren rfl) (.on (.ren rfl) .nil))
    · have h : dead now c = false := by simpa using h
      rw [h] at c1
      repeat' (first | refine zt ?_ | (refine isR ?_; first | refine zo ?_ | refine x_ldI Cookie.v k tb_ok ?_ | refine x_mv [0,1,2] [] (c1 _) ?_ | refine x_m0v [0,1,2] [] (c1 _) ?_ | refine x_mv [0,1,2] [] (c1) ?_ | refine x_m0v [0,1,2] [] (c1) ?_ | refine zA ?_ | refine zL ?_ | refine zc1 ?_ | refine zI ?_ | (refine zs1 ?_ ?_ <;> intro hc)) | refine awp_split rfl (fun hb => ?_) (fun hb => ?_) | refine x_mret [0, 1, 2] ?_ ?_ | refine x_mnor [0, 1, 2] ?_ ?_ | refine zr ?_ | exact x_le)
      refine ⟨⟨by omega, fun j x hj hx2 => ?_⟩, hk2, ?_⟩
      · by_cases e : j = k
        · subst e; rw [hx] at hx2; cases hx2; exact h
        · exact hd j x (by omega) hx2
      · exact (by exact x_len [0, 1, 2])
  · obtain rfl : k = L.length := by omega
    have hn : L.findIdx? (dead now) = none := by
      rw [List.findIdx?_eq_none_iff]
      intro x hx
      obtain ⟨j, hj⟩ := List.mem_iff_getElem?.1 hx
      rw [hd j x (List.getElem?_eq_some_iff.1 hj).1 hj]
    rw [hn] at hR
    subst hR
    repeat' (first | refine zt ?_ | (refine isR ?_; first | refine zo ?_ | refine zA ?_ | refine zL ?_ | refine zc1 ?_ | refine zI ?_ | (refine zs1 ?_ ?_ <;> intro hc)) | refine awp_split rfl (fun hb => ?_) (fun hb => ?_) | refine x_mret [0, 1, 2] ?_ ?_ | refine x_mnor [0, 1, 2] ?_ ?_ | refine zr ?_ | exact x_le)
    · rfl
    · exact .on (.same (nl_map fun _ => rfl)) (.on (.ren rfl) (.on (.ren rfl) .nil))
theorem live_dead (now : Int) (L : List Cookie) : liveF now L = L.filter (fun c => !dead now c) := by
  unfold liveF dead
  simp
abbrev stD (n : Nat) (nx now : Int) (len j i : Nat) (M : List Cookie) : S := ⟨[(0, .own 0 0 len), (1, fnD), (5, nV i), (6, nV j)], [(0, some (rC M)), (1, some rB), (2, some (rO n nx now))], 3, 42⟩
set_option maxRecDepth 100000 in
set_option maxHeartbeats 4000000 in
theorem delDead_m {L : List Cookie} {n : Nat} {nx now : Int} (hb : L.length ≤ 1000) : MCalls Tryz.prog 48 [.own 0 0 L.length, fnD] [rC L, rB, rO n nx now] (.own 0 0 (liveF now L).length) [some (rC (liveF now L)), some rB, some (rO n nx now)] := by
  have hml : (L.map Cookie.v).length = L.length := List.length_map _
  have c1 := idxDead_m (n := n) (nx := nx) (now := now) hb
  cases hf : L.findIdx? (dead now) with
  | none =>
    rw [hf] at c1
    change MCalls _ _ _ _ (.int .i64 (-1)) _ at c1
    have e : liveF now L = L := by
      rw [live_dead, List.filter_eq_self]
      intro c hc
      rw [List.findIdx?_eq_none_iff] at hf
      simp [hf c hc]
    rw [e]
    refine mfun tb_ok Tryz.func48 rfl Tryz.ntmps48 Tryz.results48 rfl rfl rfl rfl fun N pl => ?_
    repeat' (first | refine zt ?_ | (refine isR ?_; first | refine zo ?_ | refine x_m [0,1,2] [] (c1 _) ?_ | refine x_m0 [0,1,2] [] (c1 _) ?_ | refine x_m [0,1,2] [] (c1) ?_ | refine x_m0 [0,1,2] [] (c1) ?_ | refine zA ?_ | refine zL ?_ | refine zc1 ?_ | refine zc5 ?_ | refine zI ?_ | refine zS ?_ | (refine zs1 ?_ ?_ <;> intro hc) | (refine zs5 ?_ ?_ <;> intro hc)) | refine awp_split rfl (fun hb => ?_) (fun hb => ?_) | refine x_mret [0, 1, 2] ?_ ?_ | refine x_mnor [0, 1, 2] ?_ ?_ | refine zr ?_ | exact x_le)
    · rfl
    · exact .on (.same (nl_map fun _ => rfl)) (.on (.ren rfl) (.on (.ren rfl) .nil))
  | some i0 =>
    rw [hf] at c1
    change MCalls _ _ _ _ (.int .i64 (i0 : Int)) _ at c1
    obtain ⟨hi0, hd0, hlow⟩ := List.findIdx?_eq_some_iff_getElem.1 hf
    have ht0 : L.take i0 = liveF now (L.take (i0 + 1)) := by
      have hx : L[i0]? = some L[i0] := by simp [hi0]
      rw [List.take_add_one, hx, live_dead, List.filter_append]
      rw [List.filter_eq_self.2 fun c hc => by
        obtain ⟨j, hj, rfl⟩ := List.mem_iff_getElem.1 hc
        have hj2 : j < i0 := by simp at hj; omega
        have := hlow j hj2
        simpa using this]
      simp [hd0]
    refine mfun tb_ok Tryz.func48 rfl Tryz.ntmps48 Tryz.results48 rfl rfl rfl rfl fun N pl => ?_
    repeat' (first | refine zt ?_ | (refine isR ?_; first | refine zo ?_ | refine x_m [0,1,2] [] (c1 _) ?_ | refine x_m0 [0,1,2] [] (c1 _) ?_ | refine x_m [0,1,2] [] (c1) ?_ | refine x_m0 [0,1,2] [] (c1) ?_ | refine zA ?_ | refine zL ?_ | refine zc1 ?_ | refine zc5 ?_ | refine zI ?_ | refine zS ?_ | (refine zs1 ?_ ?_ <;> intro hc) | (refine zs5 ?_ ?_ <;> intro hc)) | refine awp_split rfl (fun hb => ?_) (fun hb => ?_) | refine zr ?_ | exact x_le)
    refine awp_whileN (α := Nat × Nat × List Cookie) (fun x => stD n nx now L.length x.1 x.2.1 x.2.2) (fun x => x.1 ≤ L.length ∧ x.2.1 < x.1 ∧ x.2.2.length = L.length ∧ x.2.2.take x.2.1 = liveF now (L.take x.1) ∧ x.2.2.drop x.1 = L.drop x.1 ∧ x.2.1 = (liveF now (L.take x.1)).length) (fun x => L.length - x.1) (i0 + 1, i0, L) (by exact x_le) ⟨by dsimp only; omega, by dsimp only; omega, rfl, ht0, rfl, by dsimp only; rw [← ht0, List.length_take]; omega⟩ ?_
    rintro ⟨j, i, M⟩ ⟨g1, g2, g3, g4, g5, g6⟩
    dsimp only at g1 g2 g3 g4 g5 g6 ⊢
    have hmM : (M.map Cookie.v).length = L.length := by rw [List.length_map, g3]
    by_cases hj : j < L.length
    · have hx : L[j]? = some L[j] := by simp [hj]
      have hxM : M[j]? = some L[j] := by
        have := congrArg (fun q => q[0]?) g5
        simpa [hj] using this
      have hyM : M[i]? = some (M[i]'(by omega)) := by simp [show i < M.length by omega]
      have ht : liveF now (L.take (j + 1)) = liveF now (L.take j) ++ if now < (L[j]).expiry then [L[j]] else [] := by
        unfold liveF
        rw [List.take_add_one, hx, List.filter_append]
        congr 1
        by_cases h : now < (L[j]).expiry <;> simp [h]
      have c2 := fun K => dead_m (c := L[j]) (M := K) (n := n) (nx := nx) (now := now)
      generalize M[i]'(by omega) = d at *
      generalize L[j] = c at *
      generalize hE1 : liveF now (L.take (j + 1)) = E1 at *
      generalize liveF now (L.take j) = E at *
      have hset : (M.set i c).take (i + 1) = M.take i ++ [c] := by
        rw [List.take_add_one, List.take_set_of_le (Nat.le_refl _), List.getElem?_set, if_pos rfl, if_pos (by omega)]
        rfl
      have hdrop : (M.set i c).drop (j + 1) = L.drop (j + 1) := by
        rw [List.drop_set_of_lt (by omega), ← List.drop_drop, g5, List.drop_drop]
      have hdrop2 : M.drop (j + 1) = L.drop (j + 1) := by rw [← List.drop_drop, g5, List.drop_drop]
      by_cases h : now < c.expiry
      · rw [if_pos h] at ht
        have c2 := c2 M
        rw [show dead now c = false by unfold dead; rw [decide_eq_true h]; rfl] at c2
        repeat' (first | refine zt ?_ | (refine isR ?_; first | refine zo ?_ | refine x_ldI Cookie.v j tb_ok ?_ | refine x_mv [0,1,2] [] (c2 _) ?_ | refine x_m0v [0,1,2] [] (c2 _) ?_ | refine x_mv [0,1,2] [] (c2) ?_ | refine x_m0v [0,1,2] [] (c2) ?_ | refine x_stI Cookie.v (a1 := c) i tb_ok ?_ | refine zA ?_ | refine zL ?_ | refine zc1 ?_ | refine zc5 ?_ | refine zI ?_ | refine zS ?_ | (refine zs1 ?_ ?_ <;> intro hc) | (refine zs5 ?_ ?_ <;> intro hc)) | refine awp_split rfl (fun hb => ?_) (fun hb => ?_) | refine zr ?_ | exact x_le)
        refine ⟨(j + 1, i + 1, M.set i c), ⟨by dsimp only; omega, by dsimp only; omega, by simp [g3], ?_, hdrop, ?_⟩, by dsimp only; omega, ?_⟩
        · show (M.set i c).take (i + 1) = liveF now (L.take (j + 1))
          rw [hE1, hset, g4, ht]
        · show i + 1 = (liveF now (L.take (j + 1))).length
          rw [hE1, ht, List.length_append, ← g6]; rfl
        · exact (by exact x_len [0, 1, 2])
      · rw [if_neg h, List.append_nil] at ht
        have c2 := c2 M
        rw [show dead now c = true by unfold dead; rw [decide_eq_false h]; rfl] at c2
        repeat' (first | refine zt ?_ | (refine isR ?_; first | refine zo ?_ | refine x_ldI Cookie.v j tb_ok ?_ | refine x_mv [0,1,2] [] (c2 _) ?_ | refine x_m0v [0,1,2] [] (c2 _) ?_ | refine x_mv [0,1,2] [] (c2) ?_ | refine x_m0v [0,1,2] [] (c2) ?_ | refine zA ?_ | refine zL ?_ | refine zc1 ?_ | refine zc5 ?_ | refine zI ?_ | refine zS ?_ | (refine zs1 ?_ ?_ <;> intro hc) | (refine zs5 ?_ ?_ <;> intro hc)) | refine awp_split rfl (fun hb => ?_) (fun hb => ?_) | refine zr ?_ | exact x_le)
        refine ⟨(j + 1, i, M), ⟨by dsimp only; omega, by dsimp only; omega, g3, ?_, hdrop2, ?_⟩, by dsimp only; omega, ?_⟩
        · show M.take i = liveF now (L.take (j + 1))
          rw [hE1, g4, ht]
        · show i = (liveF now (L.take (j + 1))).length
          rw [hE1, ht]; exact g6
        · exact (by exact x_len [0, 1, 2])
    · obtain rfl : j = L.length := by omega
      rw [List.take_length] at g4 g6
      generalize liveF now L = E at *
      have g4 : M.take (0 + i) = E := by rw [Nat.zero_add]; exact g4
      subst g6
      repeat' (first | refine zt ?_ | (refine isR ?_; first | refine zo ?_ | refine x_slOf tb_ok ?_ | refine x_clear Cookie.v E tb_ok ?_ | refine x_slOt tb_ok ?_ | refine zA ?_ | refine zL ?_ | refine zc1 ?_ | refine zc5 ?_ | refine zI ?_ | refine zS ?_ | (refine zs1 ?_ ?_ <;> intro hc) | (refine zs5 ?_ ?_ <;> intro hc)) | refine awp_split rfl (fun hb => ?_) (fun hb => ?_) | refine x_mret [0, 1, 2] ?_ ?_ | refine x_mnor [0, 1, 2] ?_ ?_ | refine zr ?_ | exact x_le)
      · rfl
      · exact .on (.same (nl_map fun _ => rfl)) (.on (.ren rfl) (.on (.ren rfl) .nil))
set_option maxRecDepth 100000 in
set_option maxHeartbeats 4000000 in
theorem expire_m {L : List Cookie} {nx now : Int} (hb : L.length ≤ 1000) : MCalls Tryz.prog 25 [.loc 1 0 0] [rC L, rO L.length nx now] (.tup []) [some (rC (liveF now L)), some (rO (liveF now L).length nx now)] := by
  have c1 := delDead_m (n := L.length) (nx := nx) (now := now) hb
  generalize liveF now L = E at *
  refine mfun tb_ok Tryz.func25 rfl Tryz.ntmps25 Tryz.results25 rfl rfl rfl rfl fun N pl => ?_
  repeat' (first | refine zt ?_ | (refine isR ?_; first | refine x_far [1] tb_ok rfl ?_ | refine zn ?_ | refine x_mK [0,2,1] [] [2,1] (c1 _) ?_ | refine x_mK0 [0,2,1] [] [2,1] (c1 _) ?_ | refine x_mK [0,2,1] [] [2,1] (c1) ?_ | refine x_mK0 [0,2,1] [] [2,1] (c1) ?_) | refine awp_split rfl (fun hb => ?_) (fun hb => ?_) | refine x_mret [0, 1] ?_ ?_ | refine x_mnor [0, 1] ?_ ?_ | refine zr ?_ | exact x_le)
  · rfl
  · exact .on (.same (nl_map fun _ => rfl)) (.on (.ren rfl) .nil)
end Go.Proofs.YtoehdmbogdpncaaGreatDoor.JarM
end
