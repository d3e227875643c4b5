/- Texts of the proof, joined: SufW, SufR, Bld, HeadW. -/
import Derived.Test.YtkgdkpiacencjaaGreatDoorG9
import Derived.Test.YtkgdkpiacencjaaGreatDoorG15
import Derived.Test.YtkgdkpiacencjaaGreatDoorG16
import Derived.Test.YtkgdkpiacencjaaGreatDoorG12
import Derived.Test.YtkgdkpiacencjaaGreatDoorG7
import Derived.Test.YtkgdkpiacencjaaGreatDoorG13
import Derived.Test.YtkgdkpiacencjaaGreatDoorG10
section
namespace Go.Proofs.YtkgdkpiacencjaaGreatDoor.SufW
open Go.RowKit Mem Abs HostP HostO HostA HostB HostC HostD HostE HostF HostG TreeW WordP WordS Globs SufP

theorem cut_up (l : List UInt8) : (cutF 46 l).2.1 = up l := by
  rcases first_at 46 l with h | ⟨a, r, rfl, h⟩
  · rw [cutF_none h, up_none h]
  · rw [cutF_at h, up_at h]
set_option maxRecDepth 100000 in
set_option maxHeartbeats 4000000 in
theorem above_v {l : List UInt8} : ACalls Tryz.prog 62 [strT l] (strT (up l)) := by
  have c1 := cut_v (c := 46) (l := l)
  rw [cut_up] at c1
  refine fun1 tb_ok Tryz.func62 rfl Tryz.ntmps62 Tryz.results62 rfl fun N => ?_
  repeat' (first | refine zt ?_ | (refine isR ?_; first | refine zo ?_ | refine zk c1 ?_) | refine awp_split rfl (fun hb => ?_) (fun hb => ?_) | refine zr ?_ | exact x_le)
  rfl
set_option maxRecDepth 100000 in
set_option maxHeartbeats 4000000 in
theorem behind_v {l : List UInt8} : ACalls Tryz.prog 87 [strT l] (strT (up l)) := ACalls.lim fun hl => by
  obtain ⟨hl, _⟩ := TreeW.str_lim hl
  have c1 := placeOf_v (c := 46) (l := l)
  rcases first_at 46 l with h | ⟨a, r, rfl, h⟩
  · rw [up_none h]
    rw [show posB 46 l = -1 from index_none l 46 h] at c1
    refine fun1 tb_ok Tryz.func87 rfl Tryz.ntmps87 Tryz.results87 rfl fun N => ?_
    repeat' (first | refine zt ?_ | (refine isR ?_; first | refine zo ?_ | refine zk c1 ?_ | refine zA ?_ | refine zc1 ?_ | refine zS ?_ | (refine zs1 ?_ ?_ <;> intro hc)) | refine awp_split rfl (fun hb => ?_) (fun hb => ?_) | refine zr ?_ | exact x_le)
    rfl
  · rw [up_at h]
    rw [show posB 46 (a ++ 46 :: r) = a.length from index_at a r 46 h] at c1
    have e : (a ++ 46 :: r).drop ((a.length : Int) + 1).toNat = r := by
      rw [show ((a.length : Int) + 1).toNat = a.length + 1 by omega]
      simp [← List.drop_drop]
    have hlen : (a ++ 46 :: r).length = a.length + r.length + 1 := by simp; omega
    rw [hlen] at hl
    refine fun1 tb_ok Tryz.func87 rfl Tryz.ntmps87 Tryz.results87 rfl fun N => ?_
    repeat' (first | refine zt ?_ | (refine isR ?_; first | refine zo ?_ | refine zk c1 ?_ | refine zA ?_ | refine zc1 ?_ | refine zS ?_ | (refine zs1 ?_ ?_ <;> intro hc)) | refine awp_split rfl (fun hb => ?_) (fun hb => ?_) | refine zr ?_ | exact x_le)
    rw [e]; rfl
theorem hostOk_eq (l : List UInt8) : hostOk l = (decide ((canonF l).2 = 0) && decide ((canonF l).1 = l)) := by
  unfold hostOk
  obtain ⟨a, b⟩ := canonF l
  simp [Bool.and_comm, Prod.mk.injEq, Bool.decide_and]
set_option maxRecDepth 100000 in
set_option maxHeartbeats 4000000 in
theorem host_v {l : List UInt8} : ACalls Tryz.prog 45 [strT l] (.bool (hostOk l)) := by
  have c1 := canon_v (l := l)
  rw [hostOk_eq]
  generalize canonF l = p at *
  obtain ⟨h, n⟩ := p
  dsimp only [pairT] at c1
  refine fun1 tb_ok Tryz.func45 rfl Tryz.ntmps45 Tryz.results45 rfl fun N => ?_
  by_cases h0 : n = 0
  · subst h0
    by_cases h1 : h = l
    · subst h1
      repeat' (first | refine zt ?_ | (refine isR ?_; first | refine zo ?_ | refine zk c1 ?_ | refine zc5 ?_ | (refine zs5 ?_ ?_ <;> intro hc)) | refine awp_split rfl (fun hb => ?_) (fun hb => ?_) | refine zr ?_ | exact x_le)
      simp; rfl
    · skip
      repeat' (first | refine zt ?_ | (refine isR ?_; first | refine zo ?_ | refine zk c1 ?_ | refine zc5 ?_ | (refine zs5 ?_ ?_ <;> intro hc)) | refine awp_split rfl (fun hb => ?_) (fun hb => ?_) | refine zr ?_ | exact x_le)
      simp [h1]; rfl
  · skip
    repeat' (first | refine zt ?_ | (refine isR ?_; first | refine zo ?_ | refine zk c1 ?_ | refine zc5 ?_ | (refine zs5 ?_ ?_ <;> intro hc)) | refine awp_split rfl (fun hb => ?_) (fun hb => ?_) | refine zr ?_ | exact x_le)
    simp [h0]; rfl
set_option maxRecDepth 100000 in
set_option maxHeartbeats 4000000 in
theorem isHost_v {l : List UInt8} : ACalls Tryz.prog 40 [strT l] (.bool (hostOk l)) := by
  have c1 := hostOf_v (l := l)
  rw [hostOk_eq]
  generalize canonF l = p at *
  obtain ⟨h, n⟩ := p
  dsimp only [pairT] at c1
  refine fun1 tb_ok Tryz.func40 rfl Tryz.ntmps40 Tryz.results40 rfl fun N => ?_
  by_cases h0 : n = 0
  · subst h0
    by_cases h1 : h = l
    · subst h1
      repeat' (first | refine zt ?_ | (refine isR ?_; first | refine zo ?_ | refine zk c1 ?_ | refine zc5 ?_ | (refine zs5 ?_ ?_ <;> intro hc)) | refine awp_split rfl (fun hb => ?_) (fun hb => ?_) | refine zr ?_ | exact x_le)
      simp; rfl
    · skip
      repeat' (first | refine zt ?_ | (refine isR ?_; first | refine zo ?_ | refine zk c1 ?_ | refine zc5 ?_ | (refine zs5 ?_ ?_ <;> intro hc)) | refine awp_split rfl (fun hb => ?_) (fun hb => ?_) | refine zr ?_ | exact x_le)
      simp [h1]; rfl
  · skip
    repeat' (first | refine zt ?_ | (refine isR ?_; first | refine zo ?_ | refine zk c1 ?_ | refine zc5 ?_ | (refine zs5 ?_ ?_ <;> intro hc)) | refine awp_split rfl (fun hb => ?_) (fun hb => ?_) | refine zr ?_ | exact x_le)
    simp [h0]; rfl
abbrev sufT (L : List Suffix) : Abs.V := .fro (L.map Suffix.v)
def ekS : Ty := (nth tb 79).get rfl
theorem eq_suf (a b : Suffix) : eqK ekS a.v b.v = decide (a = b) := by
  have h : eqK ekS a.v b.v = (decide (a.kind = b.kind) && (eqS (strT a.name) (strT b.name) && true)) := rfl
  rw [h, eqS_str, Bool.and_true]
  obtain ⟨a1, a2⟩ := a
  obtain ⟨b1, b2⟩ := b
  by_cases h1 : a1 = b1 <;> by_cases h2 : a2 = b2 <;> simp [h1, h2]
def mk (p : Suffix × Nat) : Abs.V × Abs.V := (p.1.v, .int .i64 (p.2 : Int))
theorem find_suf (a : Suffix) (M : List (Suffix × Nat)) : (a ∉ M.map (·.1) ∧ findE ekS a.v (M.map mk) 0 = none) ∨ (a ∈ M.map (·.1) ∧ ∃ i n, findE ekS a.v (M.map mk) 0 = some i ∧ (M.map mk)[i]? = some (a.v, .int .i64 (n : Nat))) := by
  rcases findE_is (e := ekS) (k := a.v) (es := M.map mk) (i := 0) with h | ⟨j, p, h1, h2, h3, h4⟩
  · by_cases hm : a ∈ M.map (·.1)
    · obtain ⟨q, hq, rfl⟩ := List.mem_map.1 hm
      obtain ⟨i, hi⟩ := List.mem_iff_getElem?.1 hq
      exfalso
      have : ∀ (M : List (Suffix × Nat)) (i k : Nat), M[i]? = some q → findE ekS q.1.v (M.map mk) k ≠ none := by
        intro M
        induction M with
        | nil => intro i k h; simp at h
        | cons x M ih =>
          intro i k h
          rw [List.map_cons, findE]
          cases hb : eqK ekS q.1.v (mk x).1 with
          | true => simp
          | false =>
            rw [cond_false]
            rcases i with _ | i
            · simp at h; subst h
              have := eq_suf x.1 x.1
              rw [show (mk x).1 = x.1.v from rfl, this] at hb
              simp at hb
            · exact ih i (k + 1) (by simpa using h)
      exact this M i 0 hi h
    · exact .inl ⟨hm, h⟩
  · rw [List.getElem?_map, Option.map_eq_some_iff] at h2
    obtain ⟨q, hq, rfl⟩ := h2
    have e : a = q.1 := by
      rw [show (mk q).1 = q.1.v from rfl, eq_suf] at h3
      simpa using h3
    subst e
    refine .inr ⟨List.mem_map.2 ⟨q, List.mem_of_getElem? hq, rfl⟩, j, q.2, by simpa using h1, ?_⟩
    rw [List.getElem?_map, hq]; rfl
set_option maxRecDepth 100000 in
set_option maxHeartbeats 4000000 in
theorem has_v {M : List (Suffix × Nat)} {a : Suffix} : MCalls Tryz.prog 106 [.mp 0, .int .i64 a.kind, strT a.name] [.map (M.map mk)] (.bool (decide (a ∈ M.map (·.1)))) [some (.map (M.map mk))] := by
  refine mfun tb_ok Tryz.func106 rfl Tryz.ntmps106 Tryz.results106 rfl rfl rfl rfl fun N pl => ?_
  rcases find_suf a M with ⟨h1, h2⟩ | ⟨h1, i, n, h2, h3⟩
  · rw [decide_eq_false h1]
    repeat' (first | refine zt ?_ | (refine isR ?_; first | refine zo ?_ | refine zM ?_) | refine awp_split rfl (fun hb => ?_) (fun hb => ?_) | refine x_mret [0] ?_ ?_ | refine x_mnor [0] ?_ ?_ | refine zr ?_ | exact x_le)
    · rfl
    · exact .on (.map (map_nl fun _ => rfl)) .nil
  · rw [decide_eq_true h1]
    repeat' (first | refine zt ?_ | (refine isR ?_; first | refine zo ?_ | refine zM ?_) | refine awp_split rfl (fun hb => ?_) (fun hb => ?_) | refine x_mret [0] ?_ ?_ | refine x_mnor [0] ?_ ?_ | refine zr ?_ | exact x_le)
    · rfl
    · exact .on (.map (map_nl fun _ => rfl)) .nil
theorem fro_lim {xs r : List Abs.V} (h : V.LimL (.fro xs :: r)) : xs.length ≤ 140737488355328 ∧ V.LimL r := ⟨h.1.1, h.2⟩
set_option maxRecDepth 100000 in
set_option maxHeartbeats 4000000 in
theorem index_v {L : List Suffix} {a : Suffix} : ACalls Tryz.prog 95 [sufT L, a.v] (.int .i64 (firstI (fun r => decide (a = r)) L)) := ACalls.lim fun hl => by
  have hlim := (fro_lim hl).1
  have hx : ((L.map Suffix.v).length : Int) = (L.length : Int) := by simp
  refine fun2 tb_ok Tryz.func95 rfl Tryz.ntmps95 Tryz.results95 rfl fun N => ?_
  repeat' (first | refine zt ?_ | (refine isR ?_; first | refine zo ?_ | refine zA ?_ | refine zL ?_ | refine zc1 ?_ | refine zc5 ?_ | refine zI ?_ | (refine zs1 ?_ ?_ <;> intro hc) | (refine zs5 ?_ ?_ <;> intro hc)) | refine awp_split rfl (fun hb => ?_) (fun hb => ?_) | refine zr ?_ | exact x_le)
  refine awp_for (fun k => ⟨[(0, sufT L), (3, .fp a.v.cells 0), (7, .int .i64 (L.map Suffix.v).length), (8, .int .i64 (k : Int))], [], 0, 19⟩) (fun k => k ≤ L.length ∧ Upto (fun r => !decide (a = r)) L k) L.length 0 (by exact x_le) ⟨Nat.zero_le _, upto0⟩ ?_
  intro k ⟨hk, hq⟩
  by_cases hk2 : k < L.length
  · have e1 : (L.map Suffix.v)[k]? = some (L[k]).v := by simp [hk2]
    have e2 : L[k]? = some L[k] := by simp [hk2]
    generalize L[k] = b at e1 e2
    have he := eq_suf a b
    by_cases hab : a = b
    · rw [decide_eq_true hab] at he
      repeat' (first | refine zt ?_ | (refine isR ?_; first | refine zo ?_ | refine zA ?_ | refine zL ?_ | refine zc1 ?_ | refine zc5 ?_ | refine zI ?_ | (refine zs1 ?_ ?_ <;> intro hc) | (refine zs5 ?_ ?_ <;> intro hc)) | refine awp_split rfl (fun hb => ?_) (fun hb => ?_) | refine zr ?_ | exact x_le)
      rw [firstI_at (fun j y hj hy => by have := hq j y hj hy; simpa using this) e2 (by simpa using hab)]
      rfl
    · rw [decide_eq_false hab] at he
      repeat' (first | refine zt ?_ | (refine isR ?_; first | refine zo ?_ | refine zA ?_ | refine zL ?_ | refine zc1 ?_ | refine zc5 ?_ | refine zI ?_ | (refine zs1 ?_ ?_ <;> intro hc) | (refine zs5 ?_ ?_ <;> intro hc)) | refine awp_split rfl (fun hb => ?_) (fun hb => ?_) | refine zr ?_ | exact x_le)
      exact ⟨⟨by omega, hq.on e2 (by simpa using hab)⟩, hk2, (by exact x_le)⟩
  · skip
    repeat' (first | refine zt ?_ | (refine isR ?_; first | refine zo ?_ | refine zA ?_ | refine zL ?_ | refine zc1 ?_ | refine zc5 ?_ | refine zI ?_ | (refine zs1 ?_ ?_ <;> intro hc) | (refine zs5 ?_ ?_ <;> intro hc)) | refine awp_split rfl (fun hb => ?_) (fun hb => ?_) | refine zr ?_ | exact x_le)
    rw [firstI_none (fun x hx => by have := List.all_eq_true.1 (hq.all hk2) x hx; simpa using this)]
    rfl
set_option maxRecDepth 100000 in
set_option maxHeartbeats 4000000 in
theorem contains_v {L : List Suffix} {a : Suffix} : ACalls Tryz.prog 63 [sufT L, a.v] (.bool (decide (a ∈ L))) := by
  have c1 := index_v (L := L) (a := a)
  have hg := firstI_ge (p := fun r => decide (a = r)) (l := L)
  have hm : L.any (fun r => decide (a = r)) = decide (a ∈ L) := by
    rw [Bool.eq_iff_iff, List.any_eq_true, decide_eq_true_eq]
    exact ⟨fun ⟨x, h1, h2⟩ => by have := of_decide_eq_true h2; subst this; exact h1, fun h => ⟨a, h, by simp⟩⟩
  rw [hm] at hg
  generalize firstI (fun r => decide (a = r)) L = n at *
  generalize decide (a ∈ L) = x at *
  refine fun2 tb_ok Tryz.func63 rfl Tryz.ntmps63 Tryz.results63 rfl fun N => ?_
  by_cases h0 : 0 ≤ n
  · skip
    repeat' (first | refine zt ?_ | (refine isR ?_; first | refine zo ?_ | refine zk c1 ?_ | refine zc4 ?_ | (refine zs4 ?_ ?_ <;> intro hc)) | refine awp_split rfl (fun hb => ?_) (fun hb => ?_) | refine zr ?_ | exact x_le)
    rw [hg.1 h0]; rfl
  · have : x = false := by
      cases x with
      | true => exact absurd (hg.2 rfl) h0
      | false => rfl
    repeat' (first | refine zt ?_ | (refine isR ?_; first | refine zo ?_ | refine zk c1 ?_ | refine zc4 ?_ | (refine zs4 ?_ ?_ <;> intro hc)) | refine awp_split rfl (fun hb => ?_) (fun hb => ?_) | refine zr ?_ | exact x_le)
    rw [this]; rfl
theorem checkG_step {L : List Suffix} {k : Nat} {r : Suffix} (h : L[k]? = some r) : checkG (L.take k) (L.drop k) = if bad1 r ≠ 0 then bad1 r else if r ∈ L.take k then 6 else checkG (L.take (k + 1)) (L.drop (k + 1)) := by
  obtain ⟨hk, rfl⟩ := List.getElem?_eq_some_iff.1 h
  rw [List.drop_eq_getElem_cons hk, checkG, List.take_succ_eq_append_getElem hk]
theorem bad_kind {r : Suffix} (h : r.kind < 1 ∨ 3 < r.kind) : bad1 r = 7 := by unfold bad1; rw [if_pos h]
theorem bad_form {r : Suffix} (h : ¬ (r.kind < 1 ∨ 3 < r.kind)) (h2 : hostOk r.name = false ∨ address r.name = true ∨ (r.kind = 3 ∧ up r.name = [])) : bad1 r = 1 := by unfold bad1; rw [if_neg h, if_pos h2]
theorem bad_no {r : Suffix} (h : ¬ (r.kind < 1 ∨ 3 < r.kind)) (h2 : ¬ (hostOk r.name = false ∨ address r.name = true ∨ (r.kind = 3 ∧ up r.name = []))) : bad1 r = 0 := by unfold bad1; rw [if_neg h, if_neg h2]
theorem code_bad {L : List Suffix} {k n : Nat} {r : Suffix} (h : L[k]? = some r) (hc : checkG (L.take k) (L.drop k) = checkF L) (hb : bad1 r = n) (hn : n ≠ 0) : checkF L = n := by
  rw [← hc, checkG_step h, hb, if_pos hn]
theorem code_twice {L : List Suffix} {k : Nat} {r : Suffix} (h : L[k]? = some r) (hc : checkG (L.take k) (L.drop k) = checkF L) (hb : bad1 r = 0) (hm : r ∈ L.take k) : checkF L = 6 := by
  rw [← hc, checkG_step h, hb, if_neg (by simp), if_pos hm]
theorem code_on {L : List Suffix} {k : Nat} {r : Suffix} (h : L[k]? = some r) (hc : checkG (L.take k) (L.drop k) = checkF L) (hb : bad1 r = 0) (hm : r ∉ L.take k) : checkG (L.take (k + 1)) (L.drop (k + 1)) = checkF L := by
  rw [← hc, checkG_step h, hb, if_neg (by simp), if_neg hm]
theorem code_end {L : List Suffix} {k : Nat} (hk : ¬ k < L.length) (hc : checkG (L.take k) (L.drop k) = checkF L) : checkF L = 0 := by
  rw [← hc, List.drop_eq_nil_of_le (by omega)]; rfl
set_option maxRecDepth 100000 in
set_option maxHeartbeats 4000000 in
theorem check_v {L : List Suffix} : ACallsG Tryz.prog gStr 25 [sufT L] (.int .i64 (checkF L : Nat)) := by
  have hx : ((L.map Suffix.v).length : Int) = (L.length : Int) := by simp
  refine funG1 tb_ok Tryz.func25 rfl Tryz.ntmps25 Tryz.results25 rfl fun N => ?_
  by_cases h16 : 16 < L.length
  · skip
    repeat' (first | refine zt ?_ | (refine isR ?_; first | refine zo ?_ | refine zA ?_ | refine zL ?_ | refine zc1 ?_ | refine zc3 ?_ | refine zc5 ?_ | refine zI ?_ | refine zS ?_ | (refine zs1 ?_ ?_ <;> intro hc) | (refine zs3 ?_ ?_ <;> intro hc) | (refine zs5 ?_ ?_ <;> intro hc)) | refine awp_split rfl (fun hb => ?_) (fun hb => ?_) | refine zr ?_ | exact x_le)
    have : checkF L = 2 := by unfold checkF; rw [if_pos h16]
    rw [this]; rfl
  · have h0 : checkG (L.take 0) (L.drop 0) = checkF L := by unfold checkF; rw [if_neg h16]; rfl
    repeat' (first | refine zt ?_ | (refine isR ?_; first | refine zo ?_ | refine zA ?_ | refine zL ?_ | refine zc1 ?_ | refine zc3 ?_ | refine zc5 ?_ | refine zI ?_ | refine zS ?_ | (refine zs1 ?_ ?_ <;> intro hc) | (refine zs3 ?_ ?_ <;> intro hc) | (refine zs5 ?_ ?_ <;> intro hc)) | refine awp_split rfl (fun hb => ?_) (fun hb => ?_) | refine zr ?_ | exact x_le)
    refine awp_for (fun k => ⟨[(0, sufT L), (8, sufT L), (9, .int .i64 (L.map Suffix.v).length), (10, .int .i64 (k : Int))], [], 0, 48⟩) (fun k => k ≤ L.length ∧ checkG (L.take k) (L.drop k) = checkF L) L.length 0 (by exact x_le) ⟨Nat.zero_le _, h0⟩ ?_
    intro k ⟨hk, hcc⟩
    by_cases hk2 : k < L.length
    · have e1 : (L.map Suffix.v)[k]? = some (L[k]).v := by simp [hk2]
      have e2 : L[k]? = some L[k] := by simp [hk2]
      generalize L[k] = r at e1 e2
      by_cases h7 : r.kind < 1 ∨ 3 < r.kind
      · rcases h7 with h7 | h7
        · skip
          repeat' (first | refine zt ?_ | (refine isR ?_; first | refine zo ?_ | refine zA ?_ | refine zL ?_ | refine zc1 ?_ | refine zc3 ?_ | refine zc5 ?_ | refine zI ?_ | refine zS ?_ | (refine zs1 ?_ ?_ <;> intro hc) | (refine zs3 ?_ ?_ <;> intro hc) | (refine zs5 ?_ ?_ <;> intro hc)) | refine awp_split rfl (fun hb => ?_) (fun hb => ?_) | refine zr ?_ | exact x_le)
          rw [code_bad e2 hcc (bad_kind (.inl h7)) (by decide)]; rfl
        · skip
          repeat' (first | refine zt ?_ | (refine isR ?_; first | refine zo ?_ | refine zA ?_ | refine zL ?_ | refine zc1 ?_ | refine zc3 ?_ | refine zc5 ?_ | refine zI ?_ | refine zS ?_ | (refine zs1 ?_ ?_ <;> intro hc) | (refine zs3 ?_ ?_ <;> intro hc) | (refine zs5 ?_ ?_ <;> intro hc)) | refine awp_split rfl (fun hb => ?_) (fun hb => ?_) | refine zr ?_ | exact x_le)
          rw [code_bad e2 hcc (bad_kind (.inr h7)) (by decide)]; rfl
      · have c1 := host_v (l := r.name)
        have c2 := address_v (l := r.name)
        have c3 := above_v (l := r.name)
        have c4 := contains_v (L := L.take k) (a := r)
        by_cases hh : hostOk r.name = true
        · rw [hh] at c1
          have c2 := c2 (by have := ((host_iff _).1 hh).len; omega)
          by_cases ha : address r.name = true
          · rw [ha] at c2
            repeat' (first | refine zt ?_ | (refine isR ?_; first | refine zo ?_ | refine zk c1 ?_ | refine zk c2 ?_ | refine zA ?_ | refine zL ?_ | refine zc1 ?_ | refine zc3 ?_ | refine zc5 ?_ | refine zI ?_ | refine zS ?_ | (refine zs1 ?_ ?_ <;> intro hc) | (refine zs3 ?_ ?_ <;> intro hc) | (refine zs5 ?_ ?_ <;> intro hc)) | refine awp_split rfl (fun hb => ?_) (fun hb => ?_) | refine zr ?_ | exact x_le)
            rw [code_bad e2 hcc (bad_form h7 (.inr (.inl ha))) (by decide)]; rfl
          · simp only [Bool.not_eq_true] at ha
            rw [ha] at c2
            by_cases h3 : r.kind = 3 ∧ up r.name = []
            · rw [h3.2] at c3
              have h3' := h3.1
              repeat' (first | refine zt ?_ | (refine isR ?_; first | refine zo ?_ | refine zk c1 ?_ | refine zk c2 ?_ | refine zk c3 ?_ | refine zA ?_ | refine zL ?_ | refine zc1 ?_ | refine zc3 ?_ | refine zc5 ?_ | refine zI ?_ | refine zS ?_ | (refine zs1 ?_ ?_ <;> intro hc) | (refine zs3 ?_ ?_ <;> intro hc) | (refine zs5 ?_ ?_ <;> intro hc)) | refine awp_split rfl (fun hb => ?_) (fun hb => ?_) | refine zr ?_ | exact x_le)
              rw [code_bad e2 hcc (bad_form h7 (.inr (.inr h3))) (by decide)]; rfl
            · have hb : bad1 r = 0 := bad_no h7 (by rw [hh, ha]; simpa using h3)
              by_cases hm : r ∈ L.take k
              · rw [decide_eq_true hm] at c4
                repeat' (first | refine zt ?_ | (refine isR ?_; first | refine zo ?_ | refine zk c1 ?_ | refine zk c2 ?_ | refine zk c3 ?_ | refine zk c4 ?_ | refine zA ?_ | refine zL ?_ | refine zc1 ?_ | refine zc3 ?_ | refine zc5 ?_ | refine zI ?_ | refine zS ?_ | (refine zs1 ?_ ?_ <;> intro hc) | (refine zs3 ?_ ?_ <;> intro hc) | (refine zs5 ?_ ?_ <;> intro hc)) | refine awp_split rfl (fun hb => ?_) (fun hb => ?_) | refine zr ?_ | exact x_le)
                all_goals first
                  | (exact absurd ⟨by assumption, by assumption⟩ h3)
                  | (rw [code_twice e2 hcc hb hm]; rfl)
              · rw [decide_eq_false hm] at c4
                repeat' (first | refine zt ?_ | (refine isR ?_; first | refine zo ?_ | refine zk c1 ?_ | refine zk c2 ?_ | refine zk c3 ?_ | refine zk c4 ?_ | refine zA ?_ | refine zL ?_ | refine zc1 ?_ | refine zc3 ?_ | refine zc5 ?_ | refine zI ?_ | refine zS ?_ | (refine zs1 ?_ ?_ <;> intro hc) | (refine zs3 ?_ ?_ <;> intro hc) | (refine zs5 ?_ ?_ <;> intro hc)) | refine awp_split rfl (fun hb => ?_) (fun hb => ?_) | refine zr ?_ | exact x_le)
                all_goals first
                  | (exact absurd ⟨by assumption, by assumption⟩ h3)
                  | exact ⟨⟨by omega, code_on e2 hcc hb hm⟩, hk2, (by exact x_le)⟩
        · simp only [Bool.not_eq_true] at hh
          rw [hh] at c1
          repeat' (first | refine zt ?_ | (refine isR ?_; first | refine zo ?_ | refine zk c1 ?_ | refine zA ?_ | refine zL ?_ | refine zc1 ?_ | refine zc3 ?_ | refine zc5 ?_ | refine zI ?_ | refine zS ?_ | (refine zs1 ?_ ?_ <;> intro hc) | (refine zs3 ?_ ?_ <;> intro hc) | (refine zs5 ?_ ?_ <;> intro hc)) | refine awp_split rfl (fun hb => ?_) (fun hb => ?_) | refine zr ?_ | exact x_le)
          rw [code_bad e2 hcc (bad_form h7 (.inl hh)) (by decide)]; rfl
    · skip
      repeat' (first | refine zt ?_ | (refine isR ?_; first | refine zo ?_ | refine zA ?_ | refine zL ?_ | refine zc1 ?_ | refine zc3 ?_ | refine zc5 ?_ | refine zI ?_ | refine zS ?_ | (refine zs1 ?_ ?_ <;> intro hc) | (refine zs3 ?_ ?_ <;> intro hc) | (refine zs5 ?_ ?_ <;> intro hc)) | refine awp_split rfl (fun hb => ?_) (fun hb => ?_) | refine zr ?_ | exact x_le)
      rw [code_end hk2 hcc]; rfl
theorem bad_place {r : Suffix} (h : Hst r.name) : (posB 46 r.name < 0 ↔ up r.name = []) := by
  rw [h.dot]
  rcases first_at 46 r.name with hcc | ⟨a, b, e, hcc⟩
  · rw [show posB 46 r.name = -1 from index_none _ 46 hcc]
    exact ⟨fun _ => hcc, fun _ => by decide⟩
  · rw [e, show posB 46 (a ++ 46 :: b) = a.length from index_at a b 46 hcc]
    exact ⟨fun h => by omega, fun h => by simp at h⟩
set_option maxRecDepth 100000 in
set_option maxHeartbeats 4000000 in
theorem suffixCheck_v {L : List Suffix} : ACalls Tryz.prog 34 [sufT L] (.int .i64 (checkF L : Nat)) := by
  have hx : ((L.map Suffix.v).length : Int) = (L.length : Int) := by simp
  refine fun1 tb_ok Tryz.func34 rfl Tryz.ntmps34 Tryz.results34 rfl fun N => ?_
  by_cases h16 : 16 < L.length
  · skip
    repeat' (first | refine zt ?_ | (refine isR ?_; first | refine zo ?_ | refine zA ?_ | refine zL ?_ | refine zc1 ?_ | refine zc3 ?_ | refine zc5 ?_ | refine zI ?_ | (refine zs1 ?_ ?_ <;> intro hc) | (refine zs3 ?_ ?_ <;> intro hc) | (refine zs5 ?_ ?_ <;> intro hc)) | refine awp_split rfl (fun hb => ?_) (fun hb => ?_) | refine zr ?_ | exact x_le)
    have : checkF L = 2 := by unfold checkF; rw [if_pos h16]
    rw [this]; rfl
  · have h0 : checkG (L.take 0) (L.drop 0) = checkF L := by unfold checkF; rw [if_neg h16]; rfl
    repeat' (first | refine zt ?_ | (refine isR ?_; first | refine zo ?_ | refine zA ?_ | refine zL ?_ | refine zc1 ?_ | refine zc3 ?_ | refine zc5 ?_ | refine zI ?_ | (refine zs1 ?_ ?_ <;> intro hc) | (refine zs3 ?_ ?_ <;> intro hc) | (refine zs5 ?_ ?_ <;> intro hc)) | refine awp_split rfl (fun hb => ?_) (fun hb => ?_) | refine zr ?_ | exact x_le)
    refine awp_for (fun k => ⟨[(0, sufT L), (3, .int .i64 (k : Int))], [], 0, 74⟩) (fun k => k ≤ L.length ∧ checkG (L.take k) (L.drop k) = checkF L) L.length 0 (by exact x_le) ⟨Nat.zero_le _, h0⟩ ?_
    intro k ⟨hk, hcc⟩
    by_cases hk2 : k < L.length
    · have e1 : (L.map Suffix.v)[k]? = some (L[k]).v := by simp [hk2]
      have e2 : L[k]? = some L[k] := by simp [hk2]
      generalize L[k] = r at e1 e2
      by_cases h7 : r.kind < 1 ∨ 3 < r.kind
      · rcases h7 with h7 | h7
        · skip
          repeat' (first | refine zt ?_ | (refine isR ?_; first | refine zo ?_ | refine zA ?_ | refine zL ?_ | refine zc1 ?_ | refine zc3 ?_ | refine zc5 ?_ | refine zI ?_ | (refine zs1 ?_ ?_ <;> intro hc) | (refine zs3 ?_ ?_ <;> intro hc) | (refine zs5 ?_ ?_ <;> intro hc)) | refine awp_split rfl (fun hb => ?_) (fun hb => ?_) | refine zr ?_ | exact x_le)
          rw [code_bad e2 hcc (bad_kind (.inl h7)) (by decide)]; rfl
        · skip
          repeat' (first | refine zt ?_ | (refine isR ?_; first | refine zo ?_ | refine zA ?_ | refine zL ?_ | refine zc1 ?_ | refine zc3 ?_ | refine zc5 ?_ | refine zI ?_ | (refine zs1 ?_ ?_ <;> intro hc) | (refine zs3 ?_ ?_ <;> intro hc) | (refine zs5 ?_ ?_ <;> intro hc)) | refine awp_split rfl (fun hb => ?_) (fun hb => ?_) | refine zr ?_ | exact x_le)
          rw [code_bad e2 hcc (bad_kind (.inr h7)) (by decide)]; rfl
      · have c1 := isHost_v (l := r.name)
        have c2 := isAddress_v (l := r.name)
        have c3 := placeOf_v (c := 46) (l := r.name)
        by_cases hh : hostOk r.name = true
        · have hst := (host_iff _).1 hh
          have hp := bad_place hst
          rw [hh] at c1
          have c2 := c2 (by have := hst.len; omega)
          generalize posB 46 r.name = n at *
          by_cases ha : address r.name = true
          · rw [ha] at c2
            repeat' (first | refine zt ?_ | (refine isR ?_; first | refine zo ?_ | refine zk c1 ?_ | refine zk c2 ?_ | refine zA ?_ | refine zL ?_ | refine zc1 ?_ | refine zc3 ?_ | refine zc5 ?_ | refine zI ?_ | (refine zs1 ?_ ?_ <;> intro hc) | (refine zs3 ?_ ?_ <;> intro hc) | (refine zs5 ?_ ?_ <;> intro hc)) | refine awp_split rfl (fun hb => ?_) (fun hb => ?_) | refine zr ?_ | exact x_le)
            rw [code_bad e2 hcc (bad_form h7 (.inr (.inl ha))) (by decide)]; rfl
          · simp only [Bool.not_eq_true] at ha
            rw [ha] at c2
            by_cases h3 : r.kind = 3 ∧ up r.name = []
            · have h3' := h3.1
              have hn := hp.2 h3.2
              repeat' (first | refine zt ?_ | (refine isR ?_; first | refine zo ?_ | refine zk c1 ?_ | refine zk c2 ?_ | refine zk c3 ?_ | refine zA ?_ | refine zL ?_ | refine zc1 ?_ | refine zc3 ?_ | refine zc5 ?_ | refine zI ?_ | (refine zs1 ?_ ?_ <;> intro hc) | (refine zs3 ?_ ?_ <;> intro hc) | (refine zs5 ?_ ?_ <;> intro hc)) | refine awp_split rfl (fun hb => ?_) (fun hb => ?_) | refine zr ?_ | exact x_le)
              rw [code_bad e2 hcc (bad_form h7 (.inr (.inr h3))) (by decide)]; rfl
            · have hb : bad1 r = 0 := bad_no h7 (by rw [hh, ha]; simpa using h3)
              have inner : ∀ N : Env, ∀ Q : Exit → S → Prop, True := fun _ _ => trivial
              repeat' (first | refine zt ?_ | (refine isR ?_; first | refine zo ?_ | refine zk c1 ?_ | refine zk c2 ?_ | refine zk c3 ?_ | refine zA ?_ | refine zL ?_ | refine zc1 ?_ | refine zc3 ?_ | refine zc5 ?_ | refine zI ?_ | (refine zs1 ?_ ?_ <;> intro hc) | (refine zs3 ?_ ?_ <;> intro hc) | (refine zs5 ?_ ?_ <;> intro hc)) | refine awp_split rfl (fun hb => ?_) (fun hb => ?_) | refine zr ?_ | exact x_le)
              all_goals first
                | (exact absurd ⟨by assumption, hp.1 (by assumption)⟩ h3)
                | skip
              all_goals
                refine awp_for (fun j => ⟨[(0, sufT L), (3, .int .i64 (k : Int)), (4, .int .i64 (j : Int))], [], 0, 74⟩) (fun j => j ≤ k ∧ Upto (fun q => !decide (q = r)) (L.take k) j) k 0 (by exact x_le) ⟨Nat.zero_le _, upto0⟩ ?_
                intro j ⟨hj, hq⟩
                by_cases hj2 : j < k
                · have hjl : j < L.length := by omega
                  have f1 : (L.map Suffix.v)[j]? = some (L[j]).v := by simp [hjl]
                  have f2 : L[j]? = some L[j] := by simp [hjl]
                  have f3 : (L.take k)[j]? = L[j]? := List.getElem?_take_of_lt hj2
                  rw [f2] at f3
                  generalize L[j] = q at f1 f2 f3
                  have he := eq_suf q r
                  by_cases hqr : q = r
                  · rw [decide_eq_true hqr] at he
                    repeat' (first | refine zt ?_ | (refine isR ?_; first | refine zo ?_ | refine zA ?_ | refine zL ?_ | refine zc1 ?_ | refine zc3 ?_ | refine zc5 ?_ | refine zI ?_ | (refine zs1 ?_ ?_ <;> intro hc) | (refine zs3 ?_ ?_ <;> intro hc) | (refine zs5 ?_ ?_ <;> intro hc)) | refine awp_split rfl (fun hb => ?_) (fun hb => ?_) | refine zr ?_ | exact x_le)
                    rw [code_twice e2 hcc hb (by subst hqr; exact List.mem_of_getElem? f3)]; rfl
                  · rw [decide_eq_false hqr] at he
                    repeat' (first | refine zt ?_ | (refine isR ?_; first | refine zo ?_ | refine zA ?_ | refine zL ?_ | refine zc1 ?_ | refine zc3 ?_ | refine zc5 ?_ | refine zI ?_ | (refine zs1 ?_ ?_ <;> intro hc) | (refine zs3 ?_ ?_ <;> intro hc) | (refine zs5 ?_ ?_ <;> intro hc)) | refine awp_split rfl (fun hb => ?_) (fun hb => ?_) | refine zr ?_ | exact x_le)
                    exact ⟨⟨by omega, hq.on f3 (by simpa using hqr)⟩, hj2, (by exact x_le)⟩
                · have hm : r ∉ L.take k := fun h => by
                    obtain ⟨i, hi⟩ := List.mem_iff_getElem?.1 h
                    have hil : i < j := by
                      have := (List.getElem?_eq_some_iff.1 hi).1
                      simp at this; omega
                    have := hq i r hil hi
                    simp at this
                  repeat' (first | refine zt ?_ | (refine isR ?_; first | refine zo ?_ | refine zA ?_ | refine zL ?_ | refine zc1 ?_ | refine zc3 ?_ | refine zc5 ?_ | refine zI ?_ | (refine zs1 ?_ ?_ <;> intro hc) | (refine zs3 ?_ ?_ <;> intro hc) | (refine zs5 ?_ ?_ <;> intro hc)) | refine awp_split rfl (fun hb => ?_) (fun hb => ?_) | refine zr ?_ | exact x_le)
                  exact ⟨⟨by omega, code_on e2 hcc hb hm⟩, hk2, (by exact x_le)⟩
        · simp only [Bool.not_eq_true] at hh
          rw [hh] at c1
          repeat' (first | refine zt ?_ | (refine isR ?_; first | refine zo ?_ | refine zk c1 ?_ | refine zA ?_ | refine zL ?_ | refine zc1 ?_ | refine zc3 ?_ | refine zc5 ?_ | refine zI ?_ | (refine zs1 ?_ ?_ <;> intro hc) | (refine zs3 ?_ ?_ <;> intro hc) | (refine zs5 ?_ ?_ <;> intro hc)) | refine awp_split rfl (fun hb => ?_) (fun hb => ?_) | refine zr ?_ | exact x_le)
          rw [code_bad e2 hcc (bad_form h7 (.inl hh)) (by decide)]; rfl
    · skip
      repeat' (first | refine zt ?_ | (refine isR ?_; first | refine zo ?_ | refine zA ?_ | refine zL ?_ | refine zc1 ?_ | refine zc3 ?_ | refine zc5 ?_ | refine zI ?_ | (refine zs1 ?_ ?_ <;> intro hc) | (refine zs3 ?_ ?_ <;> intro hc) | (refine zs5 ?_ ?_ <;> intro hc)) | refine awp_split rfl (fun hb => ?_) (fun hb => ?_) | refine zr ?_ | exact x_le)
      rw [code_end hk2 hcc]; rfl
end Go.Proofs.YtkgdkpiacencjaaGreatDoor.SufW
end

section
namespace Go.Proofs.YtkgdkpiacencjaaGreatDoor.SufR
open Go.RowKit Mem Abs HostP HostO HostA HostB HostC HostD HostE HostF HostG TreeW WordP WordS Globs SufP SufW

theorem zip_fst (L : List Suffix) : L.zipIdx.map (·.1) = L := List.zipIdx_map_fst 0 L
theorem has_r {L : List Suffix} {kd : Int} {d : List UInt8} : MCalls Tryz.prog 106 [.mp 0, .int .i64 kd, strT d] [.map (L.zipIdx.map mk)] (.bool (rIn L kd d)) [some (.map (L.zipIdx.map mk))] := by
  have h := has_v (M := L.zipIdx) (a := ⟨kd, d⟩)
  rw [zip_fst] at h
  exact h
theorem zip_on {L : List Suffix} {k : Nat} {r : Suffix} (h : L[k]? = some r) : (L.take (k + 1)).zipIdx = (L.take k).zipIdx ++ [(r, k)] := by
  obtain ⟨hk, rfl⟩ := List.getElem?_eq_some_iff.1 h
  rw [List.take_succ_eq_append_getElem hk, List.zipIdx_append]
  simp [Nat.min_eq_left (Nat.le_of_lt hk)]
def lastD (h : List UInt8) (xs : List (List UInt8)) : List UInt8 := (xs.getLast?).getD h
theorem last_on {h d : List UInt8} {xs : List (List UInt8)} {k : Nat} (e : xs[k]? = some d) : lastD h (xs.take (k + 1)) = d := by
  obtain ⟨hk, rfl⟩ := List.getElem?_eq_some_iff.1 e
  unfold lastD
  rw [List.take_succ_eq_append_getElem hk, List.getLast?_concat]
  rfl
def bstD (L : List Suffix) (xs : List (List UInt8)) : List UInt8 := (xs.find? (bIn L)).getD []
theorem bst_on {L : List Suffix} {d : List UInt8} {xs : List (List UInt8)} {k : Nat} (e : xs[k]? = some d) (hne : ∀ x ∈ xs, x ≠ []) : bstD L (xs.take (k + 1)) = if bstD L (xs.take k) ≠ [] then bstD L (xs.take k) else if bIn L d then d else [] := by
  unfold bstD
  rw [find_on e]
  cases hf : (xs.take k).find? (bIn L) with
  | none =>
    simp only [Option.none_or, Option.getD_none, ne_eq, not_true_eq_false, if_false]
    cases bIn L d <;> rfl
  | some x =>
    have : x ≠ [] := hne x (List.mem_of_mem_take (List.mem_of_find?_eq_some hf))
    simp [this]
theorem pub_prog {L : List Suffix} {h : List UInt8} (ha : address h = false) (hne : ∀ x ∈ ch h, x ≠ []) (hq : ∀ (j : Nat) c, (ch h)[j]? = some c → rIn L 3 c = false) : pubF L h = if bstD L (ch h) = [] then lastD h (ch h) else bstD L (ch h) := by
  unfold pubF
  rw [ha, find_no.2 hq]
  unfold bstD lastD
  simp only [Bool.false_eq_true, if_false]
  cases hf : (ch h).find? (bIn L) with
  | none => simp
  | some x =>
    have : x ≠ [] := hne x (List.mem_of_find?_eq_some hf)
    simp [this]
theorem pub_exc {L : List Suffix} {h d : List UInt8} {k : Nat} (ha : address h = false) (hd : (ch h)[k]? = some d) (hr : rIn L 3 d = true) (hq : ∀ (j : Nat) c, j < k → (ch h)[j]? = some c → rIn L 3 c = false) : pubF L h = up d := by
  unfold pubF
  rw [ha, find_idx.2 ⟨k, hd, hr, hq⟩]
  rfl
theorem ch_len (h : List UInt8) : (ch h).length ≤ h.length + 1 := by
  have := after_len h
  unfold ch; simp; omega
set_option maxRecDepth 100000 in
set_option maxHeartbeats 4000000 in
theorem raw_v {L : List Suffix} {h : List UInt8} (hL : Rules L) (hh : Hst h) : ACallsG Tryz.prog gStr 73 [sufT L, strT h] (strT (pubF L h)) := ACallsG.lim fun hl => by
  have hlim := (fro_lim hl).1
  have hlen := hh.len
  have c1 := address_v (l := h) (by omega)
  have hx : ((L.map Suffix.v).length : Int) = (L.length : Int) := by simp
  cases ha : address h with
  | true =>
    have e : pubF L h = [] := by unfold pubF; rw [ha]; rfl
    rw [e]
    rw [ha] at c1
    refine funG2 tb_ok Tryz.func73 rfl Tryz.ntmps73 Tryz.results73 rfl fun N => ?_
    repeat' (first | refine zt ?_ | (refine isR ?_; first | refine zo ?_ | refine zk c1 ?_ | refine zA ?_ | refine zL ?_ | refine zc1 ?_ | refine zc5 ?_ | refine zc6 ?_ | refine zI ?_ | (refine zs1 ?_ ?_ <;> intro hc) | (refine zs5 ?_ ?_ <;> intro hc) | (refine zs6 ?_ ?_ <;> intro hc)) | refine awp_split rfl (fun hb => ?_) (fun hb => ?_) | refine zr ?_ | exact x_le)
    rfl
  | false =>
    rw [ha] at c1
    have c2 := ups_v (l := h) (by omega)
    rw [ups_ch hh.ne ha] at c2
    have hne : ∀ x ∈ ch h, x ≠ [] := fun x hx => (hh.mem hx).ne
    have hcl := ch_len h
    have hp1 := pub_prog (L := L) ha hne
    have hp2 : ∀ k d, _ → _ → _ → _ := fun k d => pub_exc (L := L) (h := h) (d := d) (k := k) ha
    generalize pubF L h = p at *
    generalize ch h = xs at *
    have hxs : ((xs.map strT).length : Int) = (xs.length : Int) := by simp
    refine funG2 tb_ok Tryz.func73 rfl Tryz.ntmps73 Tryz.results73 rfl fun N => ?_
    repeat' (first | refine zt ?_ | (refine isR ?_; first | refine zo ?_ | refine zk c1 ?_ | refine zA ?_ | refine zL ?_ | refine zc1 ?_ | refine zc5 ?_ | refine zc6 ?_ | refine zI ?_ | refine zM ?_ | (refine zs1 ?_ ?_ <;> intro hc) | (refine zs5 ?_ ?_ <;> intro hc) | (refine zs6 ?_ ?_ <;> intro hc)) | refine awp_split rfl (fun hb => ?_) (fun hb => ?_) | refine zr ?_ | exact x_le)
    refine awp_for (fun k => ⟨[(0, sufT L), (1, strT h), (5, .mp 0), (15, sufT L), (16, .int .i64 (L.map Suffix.v).length), (17, .int .i64 (k : Int))], [(0, some (.map ((L.take k).zipIdx.map mk)))], 1, 63⟩) (fun k => k ≤ L.length) L.length 0 (by exact x_le) (Nat.zero_le _) ?_
    intro k hk
    by_cases hk2 : k < L.length
    · have e1 : (L.map Suffix.v)[k]? = some (L[k]).v := by simp [hk2]
      have e2 : L[k]? = some L[k] := by simp [hk2]
      generalize L[k] = r at e1 e2
      have hnew : findE ekS r.v ((L.take k).zipIdx.map mk) 0 = none := by
        rcases find_suf r (L.take k).zipIdx with ⟨_, h⟩ | ⟨h, _⟩
        · exact h
        · rw [zip_fst] at h
          exact absurd h (hL.once k r e2)
      have ez := zip_on e2
      repeat' (first | refine zt ?_ | (refine isR ?_; first | refine zo ?_ | refine x_putNew mk (r, k) tb_ok ?_ | refine zA ?_ | refine zL ?_ | refine zc1 ?_ | refine zc5 ?_ | refine zc6 ?_ | refine zI ?_ | refine zM ?_ | (refine zs1 ?_ ?_ <;> intro hc) | (refine zs5 ?_ ?_ <;> intro hc) | (refine zs6 ?_ ?_ <;> intro hc)) | refine awp_split rfl (fun hb => ?_) (fun hb => ?_) | refine zr ?_ | exact x_le)
      rw [ez]
      exact ⟨by omega, hk2, (by exact x_le)⟩
    · have ek : L.take k = L := List.take_of_length_le (by omega)
      rw [ek]
      repeat' (first | refine zt ?_ | (refine isR ?_; first | refine zo ?_ | refine zk c2 ?_ | refine zA ?_ | refine zL ?_ | refine zc1 ?_ | refine zc5 ?_ | refine zc6 ?_ | refine zI ?_ | (refine zs1 ?_ ?_ <;> intro hc) | (refine zs5 ?_ ?_ <;> intro hc) | (refine zs6 ?_ ?_ <;> intro hc)) | refine awp_split rfl (fun hb => ?_) (fun hb => ?_) | refine zr ?_ | exact x_le)
      refine awp_for (fun k => ⟨[(0, sufT L), (1, strT h), (5, .mp 0), (8, strT (bstD L (xs.take k))), (9, strT (lastD h (xs.take k))), (28, strsT xs), (29, .int .i64 (xs.map strT).length), (30, .int .i64 (k : Int))], [(0, some (.map (L.zipIdx.map mk)))], 1, 63⟩) (fun k => k ≤ xs.length ∧ Upto (fun d => !rIn L 3 d) xs k) xs.length 0 (by exact x_le) ⟨Nat.zero_le _, upto0⟩ ?_
      intro k ⟨hk, hq⟩
      by_cases hk2 : k < xs.length
      · have e1 : (xs.map strT)[k]? = some (strT xs[k]) := by simp [hk2]
        have e2 : xs[k]? = some xs[k] := by simp [hk2]
        generalize xs[k] = d at e1 e2
        have c3 := has_r (L := L) (kd := 3) (d := d)
        have c4 := has_r (L := L) (kd := 1) (d := d)
        have c5 := has_r (L := L) (kd := 2) (d := up d)
        have c6 := above_v (l := d)
        cases h3 : rIn L 3 d with
        | true =>
          rw [h3] at c3
          repeat' (first | refine zt ?_ | (refine isR ?_; first | refine zo ?_ | refine x_m [0] [] (c3 _) ?_ | refine x_m0 [0] [] (c3 _) ?_ | refine x_m [0] [] (c3) ?_ | refine x_m0 [0] [] (c3) ?_ | refine zk c6 ?_ | refine zA ?_ | refine zL ?_ | refine zc1 ?_ | refine zc5 ?_ | refine zc6 ?_ | refine zI ?_ | (refine zs1 ?_ ?_ <;> intro hc) | (refine zs5 ?_ ?_ <;> intro hc) | (refine zs6 ?_ ?_ <;> intro hc)) | refine awp_split rfl (fun hb => ?_) (fun hb => ?_) | refine zr ?_ | exact x_le)
          rw [hp2 k d e2 h3 fun j c hj hc => by have := hq j c hj hc; simpa using this]
          rfl
        | false =>
          rw [h3] at c3
          have hb := bst_on (L := L) e2 hne
          have hla := last_on (h := h) e2
          have hB : bIn L d = (rIn L 1 d || rIn L 2 (up d)) := rfl
          have hq2 := hq.on e2 (by rw [h3]; rfl)
          generalize bstD L (xs.take k) = b at *
          generalize lastD h (xs.take k) = la at *
          by_cases hb0 : b = []
          · subst hb0
            simp only [ne_eq, not_true_eq_false, if_false] at hb
            cases h1 : rIn L 1 d with
            | true =>
              rw [h1] at c4 hB
              rw [hB, Bool.true_or, if_pos rfl] at hb
              repeat' (first | refine zt ?_ | (refine isR ?_; first | refine zo ?_ | refine x_m [0] [] (c3 _) ?_ | refine x_m0 [0] [] (c3 _) ?_ | refine x_m [0] [] (c3) ?_ | refine x_m0 [0] [] (c3) ?_ | refine x_m [0] [] (c4 _) ?_ | refine x_m0 [0] [] (c4 _) ?_ | refine x_m [0] [] (c4) ?_ | refine x_m0 [0] [] (c4) ?_ | refine zk c6 ?_ | refine zA ?_ | refine zL ?_ | refine zc1 ?_ | refine zc5 ?_ | refine zc6 ?_ | refine zI ?_ | (refine zs1 ?_ ?_ <;> intro hc) | (refine zs5 ?_ ?_ <;> intro hc) | (refine zs6 ?_ ?_ <;> intro hc)) | refine awp_split rfl (fun hb => ?_) (fun hb => ?_) | refine zr ?_ | exact x_le)
              rw [hb, hla]
              exact ⟨⟨by omega, hq2⟩, hk2, (by exact x_le)⟩
            | false =>
              rw [h1] at c4 hB
              rw [Bool.false_or] at hB
              by_cases hu : up d = []
              · have h2 : rIn L 2 (up d) = false := by
                  unfold rIn
                  rw [decide_eq_false_iff_not, hu]
                  intro hmem
                  exact ((bad_ok (hL.ok _ hmem)).2.2.1.ne) rfl
                rw [hB, h2] at hb
                rw [hu] at c6
                repeat' (first | refine zt ?_ | (refine isR ?_; first | refine zo ?_ | refine x_m [0] [] (c3 _) ?_ | refine x_m0 [0] [] (c3 _) ?_ | refine x_m [0] [] (c3) ?_ | refine x_m0 [0] [] (c3) ?_ | refine x_m [0] [] (c4 _) ?_ | refine x_m0 [0] [] (c4 _) ?_ | refine x_m [0] [] (c4) ?_ | refine x_m0 [0] [] (c4) ?_ | refine zk c6 ?_ | refine zA ?_ | refine zL ?_ | refine zc1 ?_ | refine zc5 ?_ | refine zc6 ?_ | refine zI ?_ | (refine zs1 ?_ ?_ <;> intro hc) | (refine zs5 ?_ ?_ <;> intro hc) | (refine zs6 ?_ ?_ <;> intro hc)) | refine awp_split rfl (fun hb => ?_) (fun hb => ?_) | refine zr ?_ | exact x_le)
                rw [hb, hla]
                exact ⟨⟨by omega, hq2⟩, hk2, (by exact x_le)⟩
              · cases h2 : rIn L 2 (up d) with
                | true =>
                  rw [h2] at c5
                  rw [hB, h2, if_pos rfl] at hb
                  repeat' (first | refine zt ?_ | (refine isR ?_; first | refine zo ?_ | refine x_m [0] [] (c3 _) ?_ | refine x_m0 [0] [] (c3 _) ?_ | refine x_m [0] [] (c3) ?_ | refine x_m0 [0] [] (c3) ?_ | refine x_m [0] [] (c4 _) ?_ | refine x_m0 [0] [] (c4 _) ?_ | refine x_m [0] [] (c4) ?_ | refine x_m0 [0] [] (c4) ?_ | refine x_m [0] [] (c5 _) ?_ | refine x_m0 [0] [] (c5 _) ?_ | refine x_m [0] [] (c5) ?_ | refine x_m0 [0] [] (c5) ?_ | refine zk c6 ?_ | refine zA ?_ | refine zL ?_ | refine zc1 ?_ | refine zc5 ?_ | refine zc6 ?_ | refine zI ?_ | (refine zs1 ?_ ?_ <;> intro hc) | (refine zs5 ?_ ?_ <;> intro hc) | (refine zs6 ?_ ?_ <;> intro hc)) | refine awp_split rfl (fun hb => ?_) (fun hb => ?_) | refine zr ?_ | exact x_le)
                  rw [hb, hla]
                  exact ⟨⟨by omega, hq2⟩, hk2, (by exact x_le)⟩
                | false =>
                  rw [h2] at c5
                  rw [hB, h2] at hb
                  repeat' (first | refine zt ?_ | (refine isR ?_; first | refine zo ?_ | refine x_m [0] [] (c3 _) ?_ | refine x_m0 [0] [] (c3 _) ?_ | refine x_m [0] [] (c3) ?_ | refine x_m0 [0] [] (c3) ?_ | refine x_m [0] [] (c4 _) ?_ | refine x_m0 [0] [] (c4 _) ?_ | refine x_m [0] [] (c4) ?_ | refine x_m0 [0] [] (c4) ?_ | refine x_m [0] [] (c5 _) ?_ | refine x_m0 [0] [] (c5 _) ?_ | refine x_m [0] [] (c5) ?_ | refine x_m0 [0] [] (c5) ?_ | refine zk c6 ?_ | refine zA ?_ | refine zL ?_ | refine zc1 ?_ | refine zc5 ?_ | refine zc6 ?_ | refine zI ?_ | (refine zs1 ?_ ?_ <;> intro hc) | (refine zs5 ?_ ?_ <;> intro hc) | (refine zs6 ?_ ?_ <;> intro hc)) | refine awp_split rfl (fun hb => ?_) (fun hb => ?_) | refine zr ?_ | exact x_le)
                  rw [hb, hla]
                  exact ⟨⟨by omega, hq2⟩, hk2, (by exact x_le)⟩
          · rw [if_pos hb0] at hb
            repeat' (first | refine zt ?_ | (refine isR ?_; first | refine zo ?_ | refine x_m [0] [] (c3 _) ?_ | refine x_m0 [0] [] (c3 _) ?_ | refine x_m [0] [] (c3) ?_ | refine x_m0 [0] [] (c3) ?_ | refine zA ?_ | refine zL ?_ | refine zc1 ?_ | refine zc5 ?_ | refine zc6 ?_ | refine zI ?_ | (refine zs1 ?_ ?_ <;> intro hc) | (refine zs5 ?_ ?_ <;> intro hc) | (refine zs6 ?_ ?_ <;> intro hc)) | refine awp_split rfl (fun hb => ?_) (fun hb => ?_) | refine zr ?_ | exact x_le)
            rw [hb, hla]
            exact ⟨⟨by omega, hq2⟩, hk2, (by exact x_le)⟩
      · have ek : xs.take k = xs := List.take_of_length_le (by omega)
        rw [ek]
        have hp1 := hp1 fun j c hc => by
          have := hq j c (by have := (List.getElem?_eq_some_iff.1 hc).1; omega) hc
          simpa using this
        generalize bstD L xs = b at *
        generalize lastD h xs = la at *
        by_cases hb0 : b = []
        · rw [if_pos hb0] at hp1
          repeat' (first | refine zt ?_ | (refine isR ?_; first | refine zo ?_ | refine zA ?_ | refine zL ?_ | refine zc1 ?_ | refine zc5 ?_ | refine zc6 ?_ | refine zI ?_ | (refine zs1 ?_ ?_ <;> intro hc) | (refine zs5 ?_ ?_ <;> intro hc) | (refine zs6 ?_ ?_ <;> intro hc)) | refine awp_split rfl (fun hb => ?_) (fun hb => ?_) | refine zr ?_ | exact x_le)
          rw [hp1]; rfl
        · rw [if_neg hb0] at hp1
          repeat' (first | refine zt ?_ | (refine isR ?_; first | refine zo ?_ | refine zA ?_ | refine zL ?_ | refine zc1 ?_ | refine zc5 ?_ | refine zc6 ?_ | refine zI ?_ | (refine zs1 ?_ ?_ <;> intro hc) | (refine zs5 ?_ ?_ <;> intro hc) | (refine zs6 ?_ ?_ <;> intro hc)) | refine awp_split rfl (fun hb => ?_) (fun hb => ?_) | refine zr ?_ | exact x_le)
          rw [hp1]; rfl
end Go.Proofs.YtkgdkpiacencjaaGreatDoor.SufR
end

section
namespace Go.Proofs.YtkgdkpiacencjaaGreatDoor.Bld
open Go.RowKit Mem Abs

abbrev bytesB (p : List UInt8) : Blk := .els 5 1 (p.map byteT)
end Go.Proofs.YtkgdkpiacencjaaGreatDoor.Bld
end

section
namespace Go.Proofs.YtkgdkpiacencjaaGreatDoor.HeadW
open Go.RowKit Mem Abs TreeW WordP WordS HeadP Rune Bld

set_option maxRecDepth 100000 in
set_option maxHeartbeats 4000000 in
theorem let1_v {c : Int} : ACalls Tryz.prog 84 [.int .i32 c] (.bool (badI c)) := by
  refine fun1 tb_ok Tryz.func84 rfl Tryz.ntmps84 Tryz.results84 rfl fun N => ?_
  unfold badI
  repeat' (first | refine zt ?_ | (refine isR ?_; first | refine zo ?_ | refine zc1 ?_ | refine zc5 ?_ | refine zc6 ?_ | (refine zs1 ?_ ?_ <;> intro hc) | (refine zs5 ?_ ?_ <;> intro hc) | (refine zs6 ?_ ?_ <;> intro hc)) | refine awp_split rfl (fun hb => ?_) (fun hb => ?_) | refine zr ?_ | exact x_le)
  all_goals (show V.bool _ = V.bool _; first | (simp [*]; done) | (simp [*]; omega))
set_option maxRecDepth 100000 in
set_option maxHeartbeats 4000000 in
theorem idx_v {s : List UInt8} : ACalls Tryz.prog 115 [strT s, .fn (.func 84) [] [], .bool true] (.int .i64 (firstI badB s)) := ACalls.lim fun hl => by
  have hlim := (str_lim hl).1
  refine fun3 tb_ok Tryz.func115 rfl Tryz.ntmps115 Tryz.results115 rfl fun N => ?_
  repeat' (first | refine zt ?_ | (refine isR ?_; first | refine zo ?_ | refine x_range tb_ok ?_ | refine zc5 ?_ | (refine zs5 ?_ ?_ <;> intro hc)) | refine awp_split rfl (fun hb => ?_) (fun hb => ?_) | refine zr ?_ | exact x_le)
  refine awp_while (fun k => ⟨[(0, strT s), (1, .fn (.func 84) [] []), (2, .bool true), (10, .loc 0 0 0)], [(0, some (.sit (str s) k))], 1, 21⟩) (fun k => k ≤ s.length ∧ ∀ j y, j < k → s[j]? = some y → badB y = false) (fun k => s.length - k) 0 (by exact x_le) ⟨Nat.zero_le _, fun j y h => absurd h (Nat.not_lt_zero _)⟩ ?_
  intro k ⟨hk, hp⟩
  have hsz : (str s).size = s.length := str_size s
  by_cases hk2 : k < s.length
  · obtain ⟨c, wd, hdec, h1, h2, h3, hcase⟩ := rune_at s k hk2
    have hps : k < (str s).size := by rw [hsz]; exact hk2
    have hw : k + wd ≤ SLIM := by simp only [SLIM]; omega
    have c1 := let1_v (c := (c : Int))
    rcases hcase with ⟨b, g1, g2, g3, g4⟩ | ⟨g1, g2⟩
    · cases hb : badI (c : Int) with
      | true =>
        rw [hb] at c1
        repeat' (first | refine zt ?_ | (refine isR ?_; first | refine zo ?_ | refine x_next _ _ ?_ | refine x_callv (c1 _) ?_ | refine x_callv (c1) ?_ | refine zc5 ?_ | (refine zs5 ?_ ?_ <;> intro hc)) | refine awp_split rfl (fun hb => ?_) (fun hb => ?_) | refine zr ?_ | exact x_le)
        show V.int .i64 _ = V.int .i64 _
        rw [firstI_at hp g1 (by unfold badB; rw [← g3]; exact hb)]
      | false =>
        rw [hb] at c1
        repeat' (first | refine zt ?_ | (refine isR ?_; first | refine zo ?_ | refine x_next _ _ ?_ | refine x_callv (c1 _) ?_ | refine x_callv (c1) ?_ | refine zc5 ?_ | (refine zs5 ?_ ?_ <;> intro hc)) | refine awp_split rfl (fun hb => ?_) (fun hb => ?_) | refine zr ?_ | exact x_le)
        refine ⟨k + wd, ⟨h2, fun j y hj hy => ?_⟩, by omega, (by exact x_le)⟩
        by_cases e : j < k
        · exact hp j y e hy
        · obtain rfl : j = k := by omega
          rw [g1] at hy; cases hy
          unfold badB; rw [← g3]; exact hb
    · have hb : badI (c : Int) = false := by
        unfold badI
        rw [decide_eq_false (by omega), decide_eq_false (by omega), decide_eq_false (by omega)]; rfl
      rw [hb] at c1
      repeat' (first | refine zt ?_ | (refine isR ?_; first | refine zo ?_ | refine x_next _ _ ?_ | refine x_callv (c1 _) ?_ | refine x_callv (c1) ?_ | refine zc5 ?_ | (refine zs5 ?_ ?_ <;> intro hc)) | refine awp_split rfl (fun hb => ?_) (fun hb => ?_) | refine zr ?_ | exact x_le)
      refine ⟨k + wd, ⟨h2, fun j y hj hy => ?_⟩, by omega, (by exact x_le)⟩
      by_cases e : j < k
      · exact hp j y e hy
      · obtain ⟨b, f1, f2⟩ := g2 j (by omega) (by omega)
        rw [f1] at hy; cases hy
        unfold badB badI
        rw [decide_eq_false (by omega), decide_eq_false (by omega), decide_eq_false (by omega)]; rfl
  · have hps : ¬ k < (str s).size := by rw [hsz]; exact hk2
    repeat' (first | refine zt ?_ | (refine isR ?_; first | refine zo ?_ | refine x_nextE ?_ | refine zc5 ?_ | (refine zs5 ?_ ?_ <;> intro hc)) | refine awp_split rfl (fun hb => ?_) (fun hb => ?_) | refine zr ?_ | exact x_le)
    show V.int .i64 _ = V.int .i64 _
    rw [firstI_none fun x hx => ?_]
    obtain ⟨i, hi⟩ := List.mem_iff_getElem?.1 hx
    exact hp i x (by have := (List.getElem?_eq_some_iff.1 hi).1; omega) hi
set_option maxRecDepth 100000 in
set_option maxHeartbeats 4000000 in
theorem index_v {s : List UInt8} : ACalls Tryz.prog 83 [strT s, .fn (.func 84) [] []] (.int .i64 (firstI badB s)) := by
  have c1 := idx_v (s := s)
  refine fun2 tb_ok Tryz.func83 rfl Tryz.ntmps83 Tryz.results83 rfl fun N => ?_
  repeat' (first | refine zt ?_ | (refine isR ?_; first | refine zo ?_ | refine zk c1 ?_) | refine awp_split rfl (fun hb => ?_) (fun hb => ?_) | refine zr ?_ | exact x_le)
  rfl
theorem first_let (s : List UInt8) : letF s = decide (firstI badB s < 0) := by
  have h := firstI_ge (p := badB) (l := s)
  have e : letF s = !s.any badB := by unfold letF; rw [List.not_any_eq_all_not]
  rw [e]
  cases ha : s.any badB with
  | true => rw [ha] at h; rw [decide_eq_false (by have := h.2 rfl; omega)]; rfl
  | false =>
    have : ¬ (0 ≤ firstI badB s) := fun g => by rw [h.1 g] at ha; cases ha
    rw [decide_eq_true (by omega)]; rfl
set_option maxRecDepth 100000 in
set_option maxHeartbeats 4000000 in
theorem let_v {s : List UInt8} : ACalls Tryz.prog 47 [strT s] (.bool (letF s)) := by
  have c1 := index_v (s := s)
  rw [first_let]
  generalize firstI badB s = n at *
  refine fun1 tb_ok Tryz.func47 rfl Tryz.ntmps47 Tryz.results47 rfl fun N => ?_
  repeat' (first | refine zt ?_ | (refine isR ?_; first | refine zo ?_ | refine zk c1 ?_ | refine zc1 ?_ | (refine zs1 ?_ ?_ <;> intro hc)) | refine awp_split rfl (fun hb => ?_) (fun hb => ?_) | refine zr ?_ | exact x_le)
  all_goals (show V.bool _ = V.bool _; simp [*])
set_option maxRecDepth 100000 in
set_option maxHeartbeats 4000000 in
theorem letOf_v {s : List UInt8} : ACalls Tryz.prog 50 [strT s] (.bool (letF s)) := ACalls.lim fun hl => by
  have hlim := (str_lim hl).1
  refine fun1 tb_ok Tryz.func50 rfl Tryz.ntmps50 Tryz.results50 rfl fun N => ?_
  repeat' (first | refine zt ?_ | (refine isR ?_; first | refine zo ?_ | refine zA ?_ | refine zL ?_ | refine zc1 ?_ | refine zc2 ?_ | refine zc4 ?_ | refine zc5 ?_ | refine zI ?_ | (refine zs1 ?_ ?_ <;> intro hc) | (refine zs2 ?_ ?_ <;> intro hc) | (refine zs4 ?_ ?_ <;> intro hc) | (refine zs5 ?_ ?_ <;> intro hc)) | refine awp_split rfl (fun hb => ?_) (fun hb => ?_) | refine zr ?_ | exact x_le)
  refine awp_for (fun k => ⟨[(0, strT s), (3, .int .i64 (k : Int))], [], 0, 32⟩) (fun k => k ≤ s.length ∧ Upto (fun b => !badB b) s k) s.length 0 (by exact x_le) ⟨Nat.zero_le _, upto0⟩ ?_
  intro k ⟨hk, hq⟩
  by_cases hk2 : k < s.length
  · have e1 : s[((k : Int)).toNat]? = some s[k] := by simp [hk2]
    have e2 : s[k]? = some s[k] := by simp [hk2]
    generalize s[k] = b at e1 e2
    have hb := b.toNat_lt
    cases hbad : badB b with
    | true =>
      have hno := all_no (p := fun b => !badB b) e2 (by simp [hbad])
      unfold letF
      rw [hno]
      unfold badB badI at hbad
      simp only [Bool.or_eq_true, Bool.and_eq_true, Bool.not_eq_true', decide_eq_true_eq, decide_eq_false_iff_not] at hbad
      repeat' (first | refine zt ?_ | (refine isR ?_; first | refine zo ?_ | refine zA ?_ | refine zL ?_ | refine zc1 ?_ | refine zc2 ?_ | refine zc4 ?_ | refine zc5 ?_ | refine zI ?_ | (refine zs1 ?_ ?_ <;> intro hc) | (refine zs2 ?_ ?_ <;> intro hc) | (refine zs4 ?_ ?_ <;> intro hc) | (refine zs5 ?_ ?_ <;> intro hc)) | refine awp_split rfl (fun hb => ?_) (fun hb => ?_) | refine zr ?_ | exact x_le)
      all_goals first | rfl | (exfalso; omega)
    | false =>
      have hon := hq.on e2 (by simp [hbad])
      unfold badB badI at hbad
      simp only [Bool.or_eq_false_iff, Bool.and_eq_false_iff, Bool.not_eq_false', decide_eq_true_eq, decide_eq_false_iff_not] at hbad
      obtain ⟨hb1, hb2⟩ := hbad
      repeat' (first | refine zt ?_ | (refine isR ?_; first | refine zo ?_ | refine zA ?_ | refine zL ?_ | refine zc1 ?_ | refine zc2 ?_ | refine zc4 ?_ | refine zc5 ?_ | refine zI ?_ | (refine zs1 ?_ ?_ <;> intro hc) | (refine zs2 ?_ ?_ <;> intro hc) | (refine zs4 ?_ ?_ <;> intro hc) | (refine zs5 ?_ ?_ <;> intro hc)) | refine awp_split rfl (fun hb => ?_) (fun hb => ?_) | refine zr ?_ | exact x_le)
      all_goals first
        | (exfalso; omega)
        | (refine ⟨⟨by omega, hon⟩, by omega, ?_⟩
           exact (by exact x_le))
  · unfold letF
    rw [hq.all hk2]
    repeat' (first | refine zt ?_ | (refine isR ?_; first | refine zo ?_ | refine zA ?_ | refine zL ?_ | refine zc1 ?_ | refine zc2 ?_ | refine zc4 ?_ | refine zc5 ?_ | refine zI ?_ | (refine zs1 ?_ ?_ <;> intro hc) | (refine zs2 ?_ ?_ <;> intro hc) | (refine zs4 ?_ ?_ <;> intro hc) | (refine zs5 ?_ ?_ <;> intro hc)) | refine awp_split rfl (fun hb => ?_) (fun hb => ?_) | refine zr ?_ | exact x_le)
    rfl
set_option maxRecDepth 100000 in
set_option maxHeartbeats 4000000 in
theorem contains_v {s : List UInt8} {c : UInt8} : ACalls Tryz.prog 48 [strT s, strT [c]] (.bool (s.contains c)) := fun g N w vs hG hN hlen hv => by
  obtain ⟨vs⟩ := vs
  match vs, hlen with
  | [x0, x1], _ =>
    obtain ⟨rfl, h0⟩ := fz_str (hv 0 _ x0 rfl rfl)
    obtain ⟨rfl, _⟩ := fz_str (hv 1 _ x1 rfl rfl)
    refine (Tryz.strings_Contains_one (str s) c w).mono fun e w' ⟨h1, h2⟩ => ⟨_, h1, h2 ▸ Below.refl _ _, ?_⟩
    rw [str_toList, index_ge]
    exact .bool
set_option maxRecDepth 100000 in
set_option maxHeartbeats 4000000 in
theorem plain_v {s : List UInt8} : ACalls Tryz.prog 67 [strT s] (.bool (plainF s)) := by
  have c1 := trim_v (l := s)
  have c2 := let_v (s := s)
  have c3 := contains_v (s := s) (c := 59)
  unfold plainF
  generalize trim s = t at *
  generalize letF s = x at *
  generalize s.contains 59 = y at *
  by_cases h : t = s
  · rw [decide_eq_true h]
    cases x
    · skip
      refine fun1 tb_ok Tryz.func67 rfl Tryz.ntmps67 Tryz.results67 rfl fun N => ?_
      repeat' (first | refine zt ?_ | (refine isR ?_; first | refine zo ?_ | refine zk c1 ?_ | refine zk c2 ?_ | refine zc5 ?_ | (refine zs5 ?_ ?_ <;> intro hc)) | refine awp_split rfl (fun hb => ?_) (fun hb => ?_) | refine zr ?_ | exact x_le)
      rfl
    · skip
      refine fun1 tb_ok Tryz.func67 rfl Tryz.ntmps67 Tryz.results67 rfl fun N => ?_
      repeat' (first | refine zt ?_ | (refine isR ?_; first | refine zo ?_ | refine zk c1 ?_ | refine zk c2 ?_ | refine zk c3 ?_ | refine zc5 ?_ | (refine zs5 ?_ ?_ <;> intro hc)) | refine awp_split rfl (fun hb => ?_) (fun hb => ?_) | refine zr ?_ | exact x_le)
      rfl
  · rw [decide_eq_false h]
    refine fun1 tb_ok Tryz.func67 rfl Tryz.ntmps67 Tryz.results67 rfl fun N => ?_
    repeat' (first | refine zt ?_ | (refine isR ?_; first | refine zo ?_ | refine zk c1 ?_ | refine zc5 ?_ | (refine zs5 ?_ ?_ <;> intro hc)) | refine awp_split rfl (fun hb => ?_) (fun hb => ?_) | refine zr ?_ | exact x_le)
    rfl
set_option maxRecDepth 100000 in
set_option maxHeartbeats 4000000 in
theorem plainText_v {s : List UInt8} : ACalls Tryz.prog 76 [strT s] (.bool (plainF s)) := by
  have c1 := trimOf_v (l := s)
  have c2 := letOf_v (s := s)
  have c3 := placeOf_v (c := 59) (l := s)
  have hp := pos_none (c := 59) (l := s)
  unfold plainF
  generalize trim s = t at *
  generalize letF s = x at *
  generalize posB 59 s = n at *
  generalize s.contains 59 = y at *
  by_cases h : t = s
  · rw [decide_eq_true h]
    cases x
    · skip
      refine fun1 tb_ok Tryz.func76 rfl Tryz.ntmps76 Tryz.results76 rfl fun N => ?_
      repeat' (first | refine zt ?_ | (refine isR ?_; first | refine zo ?_ | refine zk c1 ?_ | refine zk c2 ?_ | refine zc1 ?_ | refine zc5 ?_ | (refine zs1 ?_ ?_ <;> intro hc) | (refine zs5 ?_ ?_ <;> intro hc)) | refine awp_split rfl (fun hb => ?_) (fun hb => ?_) | refine zr ?_ | exact x_le)
      rfl
    · cases y
      · have hn := hp.2 rfl
        refine fun1 tb_ok Tryz.func76 rfl Tryz.ntmps76 Tryz.results76 rfl fun N => ?_
        repeat' (first | refine zt ?_ | (refine isR ?_; first | refine zo ?_ | refine zk c1 ?_ | refine zk c2 ?_ | refine zk c3 ?_ | refine zc1 ?_ | refine zc5 ?_ | (refine zs1 ?_ ?_ <;> intro hc) | (refine zs5 ?_ ?_ <;> intro hc)) | refine awp_split rfl (fun hb => ?_) (fun hb => ?_) | refine zr ?_ | exact x_le)
        rfl
      · have hn : ¬ n < 0 := fun h => by cases hp.1 h
        refine fun1 tb_ok Tryz.func76 rfl Tryz.ntmps76 Tryz.results76 rfl fun N => ?_
        repeat' (first | refine zt ?_ | (refine isR ?_; first | refine zo ?_ | refine zk c1 ?_ | refine zk c2 ?_ | refine zk c3 ?_ | refine zc1 ?_ | refine zc5 ?_ | (refine zs1 ?_ ?_ <;> intro hc) | (refine zs5 ?_ ?_ <;> intro hc)) | refine awp_split rfl (fun hb => ?_) (fun hb => ?_) | refine zr ?_ | exact x_le)
        rfl
  · rw [decide_eq_false h]
    refine fun1 tb_ok Tryz.func76 rfl Tryz.ntmps76 Tryz.results76 rfl fun N => ?_
    repeat' (first | refine zt ?_ | (refine isR ?_; first | refine zo ?_ | refine zk c1 ?_ | refine zc1 ?_ | refine zc5 ?_ | (refine zs1 ?_ ?_ <;> intro hc) | (refine zs5 ?_ ?_ <;> intro hc)) | refine awp_split rfl (fun hb => ?_) (fun hb => ?_) | refine zr ?_ | exact x_le)
    rfl
set_option maxRecDepth 100000 in
set_option maxHeartbeats 4000000 in
theorem named_v {s : List UInt8} : ACalls Tryz.prog 65 [strT s] (.bool (namedF s)) := by
  have c1 := plain_v (s := s)
  have c2 := contains_v (s := s) (c := 61)
  unfold namedF
  generalize plainF s = x at *
  generalize s.contains 61 = y at *
  by_cases h : s = []
  · rw [decide_eq_true h]
    refine fun1 tb_ok Tryz.func65 rfl Tryz.ntmps65 Tryz.results65 rfl fun N => ?_
    repeat' (first | refine zt ?_ | (refine isR ?_; first | refine zo ?_ | refine zc6 ?_ | (refine zs6 ?_ ?_ <;> intro hc)) | refine awp_split rfl (fun hb => ?_) (fun hb => ?_) | refine zr ?_ | exact x_le)
    rfl
  · rw [decide_eq_false h]
    cases x
    · skip
      refine fun1 tb_ok Tryz.func65 rfl Tryz.ntmps65 Tryz.results65 rfl fun N => ?_
      repeat' (first | refine zt ?_ | (refine isR ?_; first | refine zo ?_ | refine zk c1 ?_ | refine zc6 ?_ | (refine zs6 ?_ ?_ <;> intro hc)) | refine awp_split rfl (fun hb => ?_) (fun hb => ?_) | refine zr ?_ | exact x_le)
      rfl
    · skip
      refine fun1 tb_ok Tryz.func65 rfl Tryz.ntmps65 Tryz.results65 rfl fun N => ?_
      repeat' (first | refine zt ?_ | (refine isR ?_; first | refine zo ?_ | refine zk c1 ?_ | refine zk c2 ?_ | refine zc6 ?_ | (refine zs6 ?_ ?_ <;> intro hc)) | refine awp_split rfl (fun hb => ?_) (fun hb => ?_) | refine zr ?_ | exact x_le)
      rfl
set_option maxRecDepth 100000 in
set_option maxHeartbeats 4000000 in
theorem okA_v {a : Attr} : ACalls Tryz.prog 64 [a.v] (.bool (!okA a)) := by
  have c1 := named_v (s := a.name)
  have c2 := fold_v (l := a.name)
  have c3 := plain_v (s := a.value)
  unfold okA
  obtain ⟨n, v⟩ := a
  dsimp only at *
  generalize namedF n = x at *
  generalize plainF v = y at *
  generalize fold n = m at *
  cases x
  · skip
    refine fun1 tb_ok Tryz.func64 rfl Tryz.ntmps64 Tryz.results64 rfl fun N => ?_
    repeat' (first | refine zt ?_ | (refine isR ?_; first | refine zo ?_ | refine zk c1 ?_ | refine zc6 ?_ | (refine zs6 ?_ ?_ <;> intro hc)) | refine awp_split rfl (fun hb => ?_) (fun hb => ?_) | refine zr ?_ | exact x_le)
    rfl
  · by_cases h : m = n
    · rw [decide_eq_true h]
      refine fun1 tb_ok Tryz.func64 rfl Tryz.ntmps64 Tryz.results64 rfl fun N => ?_
      repeat' (first | refine zt ?_ | (refine isR ?_; first | refine zo ?_ | refine zk c1 ?_ | refine zk c2 ?_ | refine zk c3 ?_ | refine zc6 ?_ | (refine zs6 ?_ ?_ <;> intro hc)) | refine awp_split rfl (fun hb => ?_) (fun hb => ?_) | refine zr ?_ | exact x_le)
      rfl
    · rw [decide_eq_false h]
      refine fun1 tb_ok Tryz.func64 rfl Tryz.ntmps64 Tryz.results64 rfl fun N => ?_
      repeat' (first | refine zt ?_ | (refine isR ?_; first | refine zo ?_ | refine zk c1 ?_ | refine zk c2 ?_ | refine zc6 ?_ | (refine zs6 ?_ ?_ <;> intro hc)) | refine awp_split rfl (fun hb => ?_) (fun hb => ?_) | refine zr ?_ | exact x_le)
      rfl
end Go.Proofs.YtkgdkpiacencjaaGreatDoor.HeadW
end
