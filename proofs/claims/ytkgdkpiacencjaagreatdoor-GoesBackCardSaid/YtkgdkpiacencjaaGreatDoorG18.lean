/- Texts of the proof, joined: HeadR, Min, CookW, HeadL, CookQ. -/
import Derived.Test.YtkgdkpiacencjaaGreatDoorG9
import Derived.Test.YtkgdkpiacencjaaGreatDoorG17
import Derived.Test.YtkgdkpiacencjaaGreatDoorG12
import Derived.Test.YtkgdkpiacencjaaGreatDoorG15
section
namespace Go.Proofs.YtkgdkpiacencjaaGreatDoor.HeadR
open Go.RowKit Mem Abs TreeW WordP WordS HeadP Rune Bld HeadW

instance : DecidableEq Attr := fun a b => if h : a.name = b.name ∧ a.value = b.value then isTrue (by cases a; cases b; cases h.1; cases h.2; rfl) else isFalse (fun e => h (by rw [e]; exact ⟨rfl, rfl⟩))
instance : DecidableEq Raw := fun a b => if h : a.name = b.name ∧ a.value = b.value ∧ a.attrs = b.attrs then isTrue (by cases a; cases b; cases h.1; cases h.2.1; cases h.2.2; rfl) else isFalse (fun e => h (by rw [e]; exact ⟨rfl, rfl, rfl⟩))
def ekA : Ty := (nth tb 45).get rfl
theorem attr_lim {L : List Attr} {r : List Abs.V} (h : V.LimL (.fro (L.map Attr.v) :: r)) : L.length ≤ 140737488355328 := by have := h.1.1; simpa using this
set_option maxRecDepth 100000 in
set_option maxHeartbeats 4000000 in
theorem indexA_v {L : List Attr} : ACalls Tryz.prog 97 [.fro (L.map Attr.v), .fn (.func 64) [] []] (.int .i64 (firstI (fun a => !okA a) L)) := ACalls.lim fun hl => by
  have hlim := attr_lim hl
  have hx : ((L.map Attr.v).length : Int) = (L.length : Int) := by simp
  refine fun2 tb_ok Tryz.func97 rfl Tryz.ntmps97 Tryz.results97 rfl fun N => ?_
  repeat' (first | refine zt ?_ | (refine isR ?_; first | refine zo ?_ | refine zA ?_ | refine zL ?_ | refine zc1 ?_ | refine zI ?_ | (refine zs1 ?_ ?_ <;> intro hc)) | refine awp_split rfl (fun hb => ?_) (fun hb => ?_) | refine zr ?_ | exact x_le)
  refine awp_for (fun k => ⟨[(0, .fro (L.map Attr.v)), (1, .fn (.func 64) [] []), (7, .int .i64 (L.map Attr.v).length), (8, .int .i64 (k : Int))], [], 0, 19⟩) (fun k => k ≤ L.length ∧ ∀ j y, j < k → L[j]? = some y → (!okA y) = false) L.length 0 (by exact x_le) ⟨Nat.zero_le _, fun j y h => absurd h (Nat.not_lt_zero _)⟩ ?_
  intro k ⟨hk, hp⟩
  by_cases hk2 : k < L.length
  · have e1 : (L.map Attr.v)[k]? = some (L[k]).v := by simp [hk2]
    have e2 : L[k]? = some L[k] := by simp [hk2]
    generalize L[k] = a at e1 e2
    have c1 := okA_v (a := a)
    cases ho : !okA a with
    | true =>
      rw [ho] at c1
      repeat' (first | refine zt ?_ | (refine isR ?_; first | refine zo ?_ | refine x_callv (c1 _) ?_ | refine x_callv (c1) ?_ | refine zA ?_ | refine zL ?_ | refine zc1 ?_ | refine zI ?_ | (refine zs1 ?_ ?_ <;> intro hc)) | refine awp_split rfl (fun hb => ?_) (fun hb => ?_) | refine zr ?_ | exact x_le)
      rw [firstI_at hp e2 ho]; rfl
    | false =>
      rw [ho] at c1
      repeat' (first | refine zt ?_ | (refine isR ?_; first | refine zo ?_ | refine x_callv (c1 _) ?_ | refine x_callv (c1) ?_ | refine zA ?_ | refine zL ?_ | refine zc1 ?_ | refine zI ?_ | (refine zs1 ?_ ?_ <;> intro hc)) | refine awp_split rfl (fun hb => ?_) (fun hb => ?_) | refine zr ?_ | exact x_le)
      refine ⟨⟨by omega, fun j y hj hy => ?_⟩, by omega, (by exact x_le)⟩
      rcases Nat.lt_succ_iff_lt_or_eq.1 hj with h1 | rfl
      · exact hp j y h1 hy
      · rw [e2] at hy; cases hy; exact ho
  · skip
    repeat' (first | refine zt ?_ | (refine isR ?_; first | refine zo ?_ | refine zA ?_ | refine zL ?_ | refine zc1 ?_ | refine zI ?_ | (refine zs1 ?_ ?_ <;> intro hc)) | refine awp_split rfl (fun hb => ?_) (fun hb => ?_) | refine zr ?_ | exact x_le)
    rw [firstI_none fun x hx' => ?_]; rfl
    obtain ⟨i, hi⟩ := List.mem_iff_getElem?.1 hx'
    exact hp i x (by have := (List.getElem?_eq_some_iff.1 hi).1; omega) hi
set_option maxRecDepth 100000 in
set_option maxHeartbeats 4000000 in
theorem containsA_v {L : List Attr} : ACalls Tryz.prog 68 [.fro (L.map Attr.v), .fn (.func 64) [] []] (.bool (!L.all okA)) := by
  have c1 := indexA_v (L := L)
  have h := firstI_ge (p := fun a => !okA a) (l := L)
  have e : (!L.all okA) = L.any fun a => !okA a := by rw [List.not_all_eq_any_not]
  rw [e]
  generalize firstI (fun a => !okA a) L = n at *
  generalize (L.any fun a => !okA a) = b at *
  cases b with
  | true =>
    have := h.2 rfl
    refine fun2 tb_ok Tryz.func68 rfl Tryz.ntmps68 Tryz.results68 rfl fun N => ?_
    repeat' (first | refine zt ?_ | (refine isR ?_; first | refine zo ?_ | refine zk c1 ?_ | refine zc4 ?_ | (refine zs4 ?_ ?_ <;> intro hc)) | refine awp_split rfl (fun hb => ?_) (fun hb => ?_) | refine zr ?_ | exact x_le)
    rfl
  | false =>
    have : ¬ (0 ≤ n) := fun g => by cases h.1 g
    refine fun2 tb_ok Tryz.func68 rfl Tryz.ntmps68 Tryz.results68 rfl fun N => ?_
    repeat' (first | refine zt ?_ | (refine isR ?_; first | refine zo ?_ | refine zk c1 ?_ | refine zc4 ?_ | (refine zs4 ?_ ?_ <;> intro hc)) | refine awp_split rfl (fun hb => ?_) (fun hb => ?_) | refine zr ?_ | exact x_le)
    rfl
set_option maxRecDepth 100000 in
set_option maxHeartbeats 4000000 in
theorem check_v {r : Raw} : ACalls Tryz.prog 27 [r.v] (.int .i64 (checkF r)) := by
  have c1 := named_v (s := r.name)
  have c2 := plain_v (s := r.value)
  have c3 := containsA_v (L := r.attrs)
  unfold checkF
  obtain ⟨n, v, L⟩ := r
  dsimp only at *
  have hx : ((L.map Attr.v).length : Int) = (L.length : Int) := by simp
  show ACalls _ _ [.agg [strT n, strT v, .fro (L.map Attr.v)]] _
  generalize namedF n = x at *
  generalize plainF v = y at *
  generalize L.all okA = z at *
  cases x
  · skip
    refine fun1 tb_ok Tryz.func27 rfl Tryz.ntmps27 Tryz.results27 rfl fun N => ?_
    repeat' (first | refine zt ?_ | (refine isR ?_; first | refine zo ?_ | refine zk c1 ?_ | refine zL ?_ | refine zc3 ?_ | (refine zs3 ?_ ?_ <;> intro hc)) | refine awp_split rfl (fun hb => ?_) (fun hb => ?_) | refine zr ?_ | exact x_le)
    rfl
  · cases y
    · skip
      refine fun1 tb_ok Tryz.func27 rfl Tryz.ntmps27 Tryz.results27 rfl fun N => ?_
      repeat' (first | refine zt ?_ | (refine isR ?_; first | refine zo ?_ | refine zk c1 ?_ | refine zk c2 ?_ | refine zL ?_ | refine zc3 ?_ | (refine zs3 ?_ ?_ <;> intro hc)) | refine awp_split rfl (fun hb => ?_) (fun hb => ?_) | refine zr ?_ | exact x_le)
      rfl
    · cases z
      · skip
        refine fun1 tb_ok Tryz.func27 rfl Tryz.ntmps27 Tryz.results27 rfl fun N => ?_
        repeat' (first | refine zt ?_ | (refine isR ?_; first | refine zo ?_ | refine zk c1 ?_ | refine zk c2 ?_ | refine zk c3 ?_ | refine zL ?_ | refine zc3 ?_ | (refine zs3 ?_ ?_ <;> intro hc)) | refine awp_split rfl (fun hb => ?_) (fun hb => ?_) | refine zr ?_ | exact x_le)
        rfl
      · by_cases h : 12 < L.length
        · rw [if_pos h]
          refine fun1 tb_ok Tryz.func27 rfl Tryz.ntmps27 Tryz.results27 rfl fun N => ?_
          repeat' (first | refine zt ?_ | (refine isR ?_; first | refine zo ?_ | refine zk c1 ?_ | refine zk c2 ?_ | refine zk c3 ?_ | refine zL ?_ | refine zc3 ?_ | (refine zs3 ?_ ?_ <;> intro hc)) | refine awp_split rfl (fun hb => ?_) (fun hb => ?_) | refine zr ?_ | exact x_le)
          rfl
        · rw [if_neg h]
          refine fun1 tb_ok Tryz.func27 rfl Tryz.ntmps27 Tryz.results27 rfl fun N => ?_
          repeat' (first | refine zt ?_ | (refine isR ?_; first | refine zo ?_ | refine zk c1 ?_ | refine zk c2 ?_ | refine zk c3 ?_ | refine zL ?_ | refine zc3 ?_ | (refine zs3 ?_ ?_ <;> intro hc)) | refine awp_split rfl (fun hb => ?_) (fun hb => ?_) | refine zr ?_ | exact x_le)
          rfl
theorem tf {b : Bool} {n : Int} (h : n < 0 ↔ b = false) : (b = true ∧ 0 ≤ n) ∨ (b = false ∧ n < 0) := by
  cases b with
  | false => exact .inr ⟨rfl, h.2 rfl⟩
  | true => exact .inl ⟨rfl, by
      by_cases g : n < 0
      · cases h.1 g
      · omega⟩
set_option maxRecDepth 100000 in
set_option maxHeartbeats 4000000 in
theorem rawCheck_v {r : Raw} : ACalls Tryz.prog 35 [r.v] (.int .i64 (checkF r)) := by
  have c1 := plainText_v (s := r.name)
  have c2 := placeOf_v (c := 61) (l := r.name)
  have c3 := plainText_v (s := r.value)
  have hp := pos_none (c := 61) (l := r.name)
  unfold checkF namedF
  obtain ⟨n, v, L⟩ := r
  dsimp only at *
  have hx : ((L.map Attr.v).length : Int) = (L.length : Int) := by simp
  show ACalls _ _ [.agg [strT n, strT v, .fro (L.map Attr.v)]] _
  generalize plainF n = x at *
  generalize plainF v = y at *
  generalize posB 61 n = q at *
  generalize n.contains 61 = z at *
  by_cases h0 : n = []
  · rw [decide_eq_true h0]
    refine fun1 tb_ok Tryz.func35 rfl Tryz.ntmps35 Tryz.results35 rfl fun N => ?_
    repeat' (first | refine zt ?_ | (refine isR ?_; first | refine zo ?_ | refine zA ?_ | refine zL ?_ | refine zc1 ?_ | refine zc3 ?_ | refine zc4 ?_ | refine zc5 ?_ | refine zc6 ?_ | refine zI ?_ | (refine zs1 ?_ ?_ <;> intro hc) | (refine zs3 ?_ ?_ <;> intro hc) | (refine zs4 ?_ ?_ <;> intro hc) | (refine zs5 ?_ ?_ <;> intro hc) | (refine zs6 ?_ ?_ <;> intro hc)) | refine awp_split rfl (fun hb => ?_) (fun hb => ?_) | refine zr ?_ | exact x_le)
    rfl
  rw [decide_eq_false h0]
  cases x
  · skip
    refine fun1 tb_ok Tryz.func35 rfl Tryz.ntmps35 Tryz.results35 rfl fun N => ?_
    repeat' (first | refine zt ?_ | (refine isR ?_; first | refine zo ?_ | refine zk c1 ?_ | refine zA ?_ | refine zL ?_ | refine zc1 ?_ | refine zc3 ?_ | refine zc4 ?_ | refine zc5 ?_ | refine zc6 ?_ | refine zI ?_ | (refine zs1 ?_ ?_ <;> intro hc) | (refine zs3 ?_ ?_ <;> intro hc) | (refine zs4 ?_ ?_ <;> intro hc) | (refine zs5 ?_ ?_ <;> intro hc) | (refine zs6 ?_ ?_ <;> intro hc)) | refine awp_split rfl (fun hb => ?_) (fun hb => ?_) | refine zr ?_ | exact x_le)
    rfl
  rcases tf hp with ⟨rfl, hq⟩ | ⟨rfl, hq⟩
  · skip
    refine fun1 tb_ok Tryz.func35 rfl Tryz.ntmps35 Tryz.results35 rfl fun N => ?_
    repeat' (first | refine zt ?_ | (refine isR ?_; first | refine zo ?_ | refine zk c1 ?_ | refine zk c2 ?_ | refine zA ?_ | refine zL ?_ | refine zc1 ?_ | refine zc3 ?_ | refine zc4 ?_ | refine zc5 ?_ | refine zc6 ?_ | refine zI ?_ | (refine zs1 ?_ ?_ <;> intro hc) | (refine zs3 ?_ ?_ <;> intro hc) | (refine zs4 ?_ ?_ <;> intro hc) | (refine zs5 ?_ ?_ <;> intro hc) | (refine zs6 ?_ ?_ <;> intro hc)) | refine awp_split rfl (fun hb => ?_) (fun hb => ?_) | refine zr ?_ | exact x_le)
    rfl
  cases y
  · skip
    refine fun1 tb_ok Tryz.func35 rfl Tryz.ntmps35 Tryz.results35 rfl fun N => ?_
    repeat' (first | refine zt ?_ | (refine isR ?_; first | refine zo ?_ | refine zk c1 ?_ | refine zk c2 ?_ | refine zk c3 ?_ | refine zA ?_ | refine zL ?_ | refine zc1 ?_ | refine zc3 ?_ | refine zc4 ?_ | refine zc5 ?_ | refine zc6 ?_ | refine zI ?_ | (refine zs1 ?_ ?_ <;> intro hc) | (refine zs3 ?_ ?_ <;> intro hc) | (refine zs4 ?_ ?_ <;> intro hc) | (refine zs5 ?_ ?_ <;> intro hc) | (refine zs6 ?_ ?_ <;> intro hc)) | refine awp_split rfl (fun hb => ?_) (fun hb => ?_) | refine zr ?_ | exact x_le)
    rfl
  refine ACalls.lim fun hl => ?_
  have hlim : L.length ≤ 140737488355328 := by
    have h := hl.1
    simp only [V.Lim, V.LimL] at h
    simpa using h.2.2.1.1
  refine fun1 tb_ok Tryz.func35 rfl Tryz.ntmps35 Tryz.results35 rfl fun N => ?_
  repeat' (first | refine zt ?_ | (refine isR ?_; first | refine zo ?_ | refine zk c1 ?_ | refine zk c2 ?_ | refine zk c3 ?_ | refine zA ?_ | refine zL ?_ | refine zc1 ?_ | refine zc3 ?_ | refine zc4 ?_ | refine zc5 ?_ | refine zc6 ?_ | refine zI ?_ | (refine zs1 ?_ ?_ <;> intro hc) | (refine zs3 ?_ ?_ <;> intro hc) | (refine zs4 ?_ ?_ <;> intro hc) | (refine zs5 ?_ ?_ <;> intro hc) | (refine zs6 ?_ ?_ <;> intro hc)) | refine awp_split rfl (fun hb => ?_) (fun hb => ?_) | refine zr ?_ | exact x_le)
  refine awp_for (fun k => ⟨[(1, .fp [strT n, strT v, .fro (L.map Attr.v)] 0), (3, .int .i64 (k : Int))], [], 0, 71⟩) (fun k => k ≤ L.length ∧ Upto okA L k) L.length 0 (by exact x_le) ⟨Nat.zero_le _, upto0⟩ ?_
  intro k ⟨hk, hq2⟩
  by_cases hk2 : k < L.length
  · have e1 : (L.map Attr.v)[k]? = some (L[k]).v := by simp [hk2]
    have e2 : L[k]? = some L[k] := by simp [hk2]
    generalize L[k] = a at e1 e2
    have hno := all_no (p := okA) e2
    have hon := hq2.on e2
    have d1 := plainText_v (s := a.name)
    have d2 := placeOf_v (c := 61) (l := a.name)
    have d3 := foldOf_v (l := a.name)
    have d4 := plainText_v (s := a.value)
    have dp := pos_none (c := 61) (l := a.name)
    obtain ⟨an, av⟩ := a
    rw [show okA ⟨an, av⟩ = ((!decide (an = []) && (plainF an && !an.contains 61)) && (decide (fold an = an) && plainF av)) from rfl] at hno hon
    dsimp only at d1 d2 d3 d4 dp e1 e2
    generalize plainF an = x at *
    generalize plainF av = y at *
    generalize posB 61 an = q2 at *
    generalize an.contains 61 = z at *
    generalize fold an = m at *
    by_cases g0 : an = []
    · rw [decide_eq_true g0] at hno
      rw [hno rfl]
      repeat' (first | refine zt ?_ | (refine isR ?_; first | refine zo ?_ | refine zA ?_ | refine zL ?_ | refine zc1 ?_ | refine zc3 ?_ | refine zc4 ?_ | refine zc5 ?_ | refine zc6 ?_ | refine zI ?_ | (refine zs1 ?_ ?_ <;> intro hc) | (refine zs3 ?_ ?_ <;> intro hc) | (refine zs4 ?_ ?_ <;> intro hc) | (refine zs5 ?_ ?_ <;> intro hc) | (refine zs6 ?_ ?_ <;> intro hc)) | refine awp_split rfl (fun hb => ?_) (fun hb => ?_) | refine zr ?_ | exact x_le)
      rfl
    rw [decide_eq_false g0] at hno hon
    cases x
    · rw [hno rfl]
      repeat' (first | refine zt ?_ | (refine isR ?_; first | refine zo ?_ | refine zk d1 ?_ | refine zA ?_ | refine zL ?_ | refine zc1 ?_ | refine zc3 ?_ | refine zc4 ?_ | refine zc5 ?_ | refine zc6 ?_ | refine zI ?_ | (refine zs1 ?_ ?_ <;> intro hc) | (refine zs3 ?_ ?_ <;> intro hc) | (refine zs4 ?_ ?_ <;> intro hc) | (refine zs5 ?_ ?_ <;> intro hc) | (refine zs6 ?_ ?_ <;> intro hc)) | refine awp_split rfl (fun hb => ?_) (fun hb => ?_) | refine zr ?_ | exact x_le)
      rfl
    rcases tf dp with ⟨rfl, dq⟩ | ⟨rfl, dq⟩
    · rw [hno rfl]
      repeat' (first | refine zt ?_ | (refine isR ?_; first | refine zo ?_ | refine zk d1 ?_ | refine zk d2 ?_ | refine zA ?_ | refine zL ?_ | refine zc1 ?_ | refine zc3 ?_ | refine zc4 ?_ | refine zc5 ?_ | refine zc6 ?_ | refine zI ?_ | (refine zs1 ?_ ?_ <;> intro hc) | (refine zs3 ?_ ?_ <;> intro hc) | (refine zs4 ?_ ?_ <;> intro hc) | (refine zs5 ?_ ?_ <;> intro hc) | (refine zs6 ?_ ?_ <;> intro hc)) | refine awp_split rfl (fun hb => ?_) (fun hb => ?_) | refine zr ?_ | exact x_le)
      rfl
    by_cases g1 : m = an
    · rw [decide_eq_true g1] at hno hon
      cases y
      · rw [hno rfl]
        repeat' (first | refine zt ?_ | (refine isR ?_; first | refine zo ?_ | refine zk d1 ?_ | refine zk d2 ?_ | refine zk d3 ?_ | refine zk d4 ?_ | refine zA ?_ | refine zL ?_ | refine zc1 ?_ | refine zc3 ?_ | refine zc4 ?_ | refine zc5 ?_ | refine zc6 ?_ | refine zI ?_ | (refine zs1 ?_ ?_ <;> intro hc) | (refine zs3 ?_ ?_ <;> intro hc) | (refine zs4 ?_ ?_ <;> intro hc) | (refine zs5 ?_ ?_ <;> intro hc) | (refine zs6 ?_ ?_ <;> intro hc)) | refine awp_split rfl (fun hb => ?_) (fun hb => ?_) | refine zr ?_ | exact x_le)
        rfl
      · skip
        repeat' (first | refine zt ?_ | (refine isR ?_; first | refine zo ?_ | refine zk d1 ?_ | refine zk d2 ?_ | refine zk d3 ?_ | refine zk d4 ?_ | refine zA ?_ | refine zL ?_ | refine zc1 ?_ | refine zc3 ?_ | refine zc4 ?_ | refine zc5 ?_ | refine zc6 ?_ | refine zI ?_ | (refine zs1 ?_ ?_ <;> intro hc) | (refine zs3 ?_ ?_ <;> intro hc) | (refine zs4 ?_ ?_ <;> intro hc) | (refine zs5 ?_ ?_ <;> intro hc) | (refine zs6 ?_ ?_ <;> intro hc)) | refine awp_split rfl (fun hb => ?_) (fun hb => ?_) | refine zr ?_ | exact x_le)
        refine ⟨⟨by omega, hon rfl⟩, by omega, ?_⟩
        exact (by exact x_le)
    · rw [decide_eq_false g1] at hno
      rw [hno rfl]
      repeat' (first | refine zt ?_ | (refine isR ?_; first | refine zo ?_ | refine zk d1 ?_ | refine zk d2 ?_ | refine zk d3 ?_ | refine zA ?_ | refine zL ?_ | refine zc1 ?_ | refine zc3 ?_ | refine zc4 ?_ | refine zc5 ?_ | refine zc6 ?_ | refine zI ?_ | (refine zs1 ?_ ?_ <;> intro hc) | (refine zs3 ?_ ?_ <;> intro hc) | (refine zs4 ?_ ?_ <;> intro hc) | (refine zs5 ?_ ?_ <;> intro hc) | (refine zs6 ?_ ?_ <;> intro hc)) | refine awp_split rfl (fun hb => ?_) (fun hb => ?_) | refine zr ?_ | exact x_le)
      rfl
  · rw [hq2.all hk2]
    by_cases h : 12 < L.length
    · rw [if_pos h]
      repeat' (first | refine zt ?_ | (refine isR ?_; first | refine zo ?_ | refine zA ?_ | refine zL ?_ | refine zc1 ?_ | refine zc3 ?_ | refine zc4 ?_ | refine zc5 ?_ | refine zc6 ?_ | refine zI ?_ | (refine zs1 ?_ ?_ <;> intro hc) | (refine zs3 ?_ ?_ <;> intro hc) | (refine zs4 ?_ ?_ <;> intro hc) | (refine zs5 ?_ ?_ <;> intro hc) | (refine zs6 ?_ ?_ <;> intro hc)) | refine awp_split rfl (fun hb => ?_) (fun hb => ?_) | refine zr ?_ | exact x_le)
      rfl
    · rw [if_neg h]
      repeat' (first | refine zt ?_ | (refine isR ?_; first | refine zo ?_ | refine zA ?_ | refine zL ?_ | refine zc1 ?_ | refine zc3 ?_ | refine zc4 ?_ | refine zc5 ?_ | refine zc6 ?_ | refine zI ?_ | (refine zs1 ?_ ?_ <;> intro hc) | (refine zs3 ?_ ?_ <;> intro hc) | (refine zs4 ?_ ?_ <;> intro hc) | (refine zs5 ?_ ?_ <;> intro hc) | (refine zs6 ?_ ?_ <;> intro hc)) | refine awp_split rfl (fun hb => ?_) (fun hb => ?_) | refine zr ?_ | exact x_le)
      rfl
end Go.Proofs.YtkgdkpiacencjaaGreatDoor.HeadR
end

section
namespace Go.Proofs.YtkgdkpiacencjaaGreatDoor.Abs
open Go.RowKit Mem Facts
section
variable {P : Program} {N : Env} {M : Nat → Prop} {o : Oper} {s : S} {a : Act} {x y : Operand} {w : World}
theorem law_min {t t' : TypeId} {m n q : Int} (ho : o.op = .call { callee := .builtin .min, args := #[x, y], argTypes := #[t, t'] }) (h : (if n < m then n else m) = q) (hq : InR .i64 q) : OpLaw P N o ⟨[(x, .int .i64 m), (y, .int .i64 n)], []⟩ (.int .i64 q) [] [] := law_pure fun s M A φ ac w hh hr => by
  refine ⟨.int .i64 q, ?_, .fz (.int hq)⟩
  unfold execOp
  simp only [ho, resolve, Sem.run_bind, Sem.run_pure, Result.andThen_ok, invoke, builtin, List.map_toArray, List.map_cons, List.map_nil, hr.int hh.a, hr.int hh.b]
  subst h
  simp [Builtin.min_, Builtin.min2]
theorem law_neg {t : TypeId} {n q : Int} (ho : o.op = .unOp .neg t x) (h : -n = q) (hq : -9223372036854775808 ≤ q ∧ q ≤ 9223372036854775807) : OpLaw P N o ⟨[(x, .int .i64 n)], []⟩ (.int .i64 q) [] [] := law_pure fun s M A φ a w hh hr =>
  ⟨.int .i64 q, by
    subst h
    unfold execOp
    simp only [ho, hr.int hh.a, Op.unary, Op.intArith, Sem.run_bind, Sem.run_pure, Result.andThen_ok]
    exact congrArg (fun z => Result.ok (Next.value (Value.int .i64 z)) w) (by rw [Int.zero_sub]; exact wrap64 hq.1 hq.2), .fz (.int ⟨by simp only [rng]; omega, by simp only [rng]; omega⟩)⟩
end
section
variable {P : Program} {N : Env} {l r : List Oper} {o : Oper} {tm : List (Nat × V)} {st : List (Nat × Option Blk)} {nx nt : Nat} {tr : List Tr} {K : S → List Tr → Prop} {d : Nat} {t t' : TypeId} {x y : Operand} {a b : Int}
theorem x_min (q : Int) (k : ARun P N l K r ⟨(d, .int .i64 q) :: tm, st, nx, nt⟩ (tr ++ [trOf l o ⟨[(x, .int .i64 a), (y, .int .i64 b)], []⟩ []])) (ho : o.op = .call { callee := .builtin .min, args := #[x, y], argTypes := #[t, t'] } := by rfl) (hx : S.ev ⟨tm, st, nx, nt⟩ x = some (.int .i64 a) := by rfl) (hy : S.ev ⟨tm, st, nx, nt⟩ y = some (.int .i64 b) := by rfl) (hg : guardV l o ⟨tm, st, nx, nt⟩ = some true := by rfl) (hd : o.dst = some d := by rfl) (hlt : Nat.blt d nt = true := by rfl) (h : (if b < a then b else a) = q := by first | assumption | omega) (hq : -9223372036854775808 ≤ q ∧ q ≤ 9223372036854775807 := by omega) : ARun P N l K (o :: r) ⟨tm, st, nx, nt⟩ tr := r_val hg hd hlt (law_min ho h ⟨by simp only [rng]; omega, by simp only [rng]; omega⟩) (hT hx (hT hy h0)) k
theorem x_neg (k : ARun P N l K r ⟨(d, .int .i64 (-a)) :: tm, st, nx, nt⟩ (tr ++ [trOf l o ⟨[(x, .int .i64 a)], []⟩ []])) (ho : o.op = .unOp .neg t x := by rfl) (hx : S.ev ⟨tm, st, nx, nt⟩ x = some (.int .i64 a) := by rfl) (hg : guardV l o ⟨tm, st, nx, nt⟩ = some true := by rfl) (hd : o.dst = some d := by rfl) (hlt : Nat.blt d nt = true := by rfl) (h : -9223372036854775808 ≤ -a ∧ -a ≤ 9223372036854775807 := by omega) : ARun P N l K (o :: r) ⟨tm, st, nx, nt⟩ tr := r_val hg hd hlt (law_neg ho rfl h) (hT hx h0) k
end
end Go.Proofs.YtkgdkpiacencjaaGreatDoor.Abs
end

section
namespace Go.Proofs.YtkgdkpiacencjaaGreatDoor.CookW
open Go.RowKit Mem Abs TreeW WordP WordS HostP HostO HostA HostB HostC HostD PathT Globs StampB StampG ClockP ClockW ClockO ClockV CookP Both

theorem is_v {n : Int} : ACalls Tryz.prog 49 [.int .i64 n] (.bool (isB n)) := fun g N w vs hG hN hlen hv => by
  obtain ⟨vs⟩ := vs
  match vs, hlen with
  | [x0], _ =>
    obtain ⟨rfl, _⟩ := fz_int (hv 0 _ x0 rfl rfl)
    exact (ClockW.is_any n w).mono fun e w' ⟨he, hbel⟩ => ⟨_, he, hbel ▸ Below.refl _ _, .bool⟩
theorem after_in {n s : Int} (h : isB n = true) : -11644473600 ≤ afterF n s ∧ afterF n s ≤ 253402300799 := by
  have := isB_iff.1 h
  unfold afterF
  split <;> split <;> omega
theorem after_v {n s : Int} (h : isB n = true) : ACalls Tryz.prog 71 [.int .i64 n, .int .i64 s] (.int .i64 (afterF n s)) := fun g N w vs hG hN hlen hv => by
  obtain ⟨vs⟩ := vs
  match vs, hlen with
  | [x0, x1], _ =>
    obtain ⟨rfl, _⟩ := fz_int (hv 0 _ x0 rfl rfl)
    obtain ⟨rfl, k1⟩ := fz_int (hv 1 _ x1 rfl rfl)
    have hb := isB_iff.1 h
    have ha := after_in (s := s) h
    simp only [InR, rng] at k1
    exact (ClockW.after_any n s w hb.1 hb.2 k1.1 k1.2).mono fun e w' ⟨he, hbel⟩ => ⟨_, he, hbel ▸ Below.refl _ _, .int ⟨by simp only [rng]; omega, by simp only [rng]; omega⟩⟩
theorem default_v {l : List UInt8} (h : l.length ≤ 400) : ACalls Tryz.prog 29 [strT l] (strT (PathW.dflt l)) := fun g N w vs hG hN hlen hv => by
  obtain ⟨vs⟩ := vs
  match vs, hlen with
  | [x0], _ =>
    obtain ⟨rfl, h0⟩ := fz_str (hv 0 _ x0 rfl rfl)
    have hd := PathL.dflt_le l
    refine (PathW.default_any (str l) w (by rw [str_size]; omega)).mono fun e w' ⟨he, hbel⟩ => ⟨_, he, hbel ▸ Below.refl _ _, ?_⟩
    rw [str_toList]
    exact .str (by rw [str_size]; simp only [SLIM]; omega)
set_option maxRecDepth 100000 in
set_option maxHeartbeats 4000000 in
theorem trimPrefixL_v {l m : List UInt8} : ACalls Tryz.prog 104 [strT l, strT m] (strT (cutP l m).1) := ACalls.lim fun hl => by
  obtain ⟨h1, hl⟩ := TreeW.str_lim hl
  obtain ⟨h2, _⟩ := TreeW.str_lim hl
  have c1 := hasPrefixL_v (l := l) (m := m)
  unfold cutP
  cases hp : pre l m with
  | true =>
    have hle := pre_len hp
    rw [hp] at c1
    have e : l.drop ((m.length : Int)).toNat = l.drop m.length := rfl
    rw [if_pos rfl]
    refine fun2 tb_ok Tryz.func104 rfl Tryz.ntmps104 Tryz.results104 rfl fun N => ?_
    repeat' (first | refine zt ?_ | (refine isR ?_; first | refine zo ?_ | refine zk c1 ?_ | refine zL ?_ | refine zS ?_) | refine awp_split rfl (fun hb => ?_) (fun hb => ?_) | refine zr ?_ | exact x_le)
    rfl
  | false =>
    rw [hp] at c1
    refine fun2 tb_ok Tryz.func104 rfl Tryz.ntmps104 Tryz.results104 rfl fun N => ?_
    repeat' (first | refine zt ?_ | (refine isR ?_; first | refine zo ?_ | refine zk c1 ?_ | refine zL ?_ | refine zS ?_) | refine awp_split rfl (fun hb => ?_) (fun hb => ?_) | refine zr ?_ | exact x_le)
    rfl
set_option maxRecDepth 100000 in
set_option maxHeartbeats 4000000 in
theorem trimPrefix_v {l m : List UInt8} : ACalls Tryz.prog 72 [strT l, strT m] (strT (cutP l m).1) := by
  have c1 := trimPrefixL_v (l := l) (m := m)
  refine fun2 tb_ok Tryz.func72 rfl Tryz.ntmps72 Tryz.results72 rfl fun N => ?_
  repeat' (first | refine zt ?_ | (refine isR ?_; first | refine zo ?_ | refine zk c1 ?_) | refine awp_split rfl (fun hb => ?_) (fun hb => ?_) | refine zr ?_ | exact x_le)
  rfl
set_option maxRecDepth 100000 in
set_option maxHeartbeats 4000000 in
theorem ready_v {f : From} {now : Int} : ACalls Tryz.prog 14 [f.v, .int .i64 now] (.int .i64 (readyF f now)) := by
  have c1 := SufW.host_v (l := f.host)
  have c2 := hasPrefix_v (l := f.path) (m := [47])
  have c3 := HeadW.let_v (s := f.path)
  have c4 := HeadW.contains_v (s := f.path) (c := 59)
  have c5 := is_v (n := now)
  unfold readyF
  obtain ⟨f1, f2, f3, f4, f5⟩ := f
  dsimp only at *
  generalize SufP.hostOk f1 = x1 at *
  generalize pre f2 [47] = x2 at *
  generalize HeadP.letF f2 = x3 at *
  generalize f2.contains 59 = x4 at *
  generalize isB now = x5 at *
  show ACalls _ _ [.agg [strT f1, strT f2, .bool f3, .bool f4, .bool f5], .int .i64 now] _
  have z : ∀ {p : Prop} [Decidable p] {a b : Int}, ¬ p → (if p then a else b) = b := fun h => if_neg h
  cases x1
  · rw [z (by simp)]
    refine fun2 tb_ok Tryz.func14 rfl Tryz.ntmps14 Tryz.results14 rfl fun N => ?_
    repeat' (first | refine zt ?_ | (refine isR ?_; first | refine zo ?_ | refine zk c1 ?_ | refine zL ?_ | refine zc3 ?_ | (refine zs3 ?_ ?_ <;> intro hc)) | refine awp_split rfl (fun hb => ?_) (fun hb => ?_) | refine zr ?_ | exact x_le)
    rfl
  cases x2
  · rw [z (by simp)]
    refine fun2 tb_ok Tryz.func14 rfl Tryz.ntmps14 Tryz.results14 rfl fun N => ?_
    repeat' (first | refine zt ?_ | (refine isR ?_; first | refine zo ?_ | refine zk c1 ?_ | refine zk c2 ?_ | refine zL ?_ | refine zc3 ?_ | (refine zs3 ?_ ?_ <;> intro hc)) | refine awp_split rfl (fun hb => ?_) (fun hb => ?_) | refine zr ?_ | exact x_le)
    rfl
  cases x3
  · rw [z (by simp)]
    refine fun2 tb_ok Tryz.func14 rfl Tryz.ntmps14 Tryz.results14 rfl fun N => ?_
    repeat' (first | refine zt ?_ | (refine isR ?_; first | refine zo ?_ | refine zk c1 ?_ | refine zk c2 ?_ | refine zk c3 ?_ | refine zL ?_ | refine zc3 ?_ | (refine zs3 ?_ ?_ <;> intro hc)) | refine awp_split rfl (fun hb => ?_) (fun hb => ?_) | refine zr ?_ | exact x_le)
    rfl
  cases x4
  · by_cases h : f2.length ≤ 400
    · rw [if_pos ⟨rfl, rfl, rfl, rfl, h⟩]
      cases x5
      · skip
        refine fun2 tb_ok Tryz.func14 rfl Tryz.ntmps14 Tryz.results14 rfl fun N => ?_
        repeat' (first | refine zt ?_ | (refine isR ?_; first | refine zo ?_ | refine zk c1 ?_ | refine zk c2 ?_ | refine zk c3 ?_ | refine zk c4 ?_ | refine zk c5 ?_ | refine zL ?_ | refine zc3 ?_ | (refine zs3 ?_ ?_ <;> intro hc)) | refine awp_split rfl (fun hb => ?_) (fun hb => ?_) | refine zr ?_ | exact x_le)
        rfl
      · skip
        refine fun2 tb_ok Tryz.func14 rfl Tryz.ntmps14 Tryz.results14 rfl fun N => ?_
        repeat' (first | refine zt ?_ | (refine isR ?_; first | refine zo ?_ | refine zk c1 ?_ | refine zk c2 ?_ | refine zk c3 ?_ | refine zk c4 ?_ | refine zk c5 ?_ | refine zL ?_ | refine zc3 ?_ | (refine zs3 ?_ ?_ <;> intro hc)) | refine awp_split rfl (fun hb => ?_) (fun hb => ?_) | refine zr ?_ | exact x_le)
        rfl
    · rw [z (by simp [h])]
      refine fun2 tb_ok Tryz.func14 rfl Tryz.ntmps14 Tryz.results14 rfl fun N => ?_
      repeat' (first | refine zt ?_ | (refine isR ?_; first | refine zo ?_ | refine zk c1 ?_ | refine zk c2 ?_ | refine zk c3 ?_ | refine zk c4 ?_ | refine zL ?_ | refine zc3 ?_ | (refine zs3 ?_ ?_ <;> intro hc)) | refine awp_split rfl (fun hb => ?_) (fun hb => ?_) | refine zr ?_ | exact x_le)
      rfl
  · rw [z (by simp)]
    refine fun2 tb_ok Tryz.func14 rfl Tryz.ntmps14 Tryz.results14 rfl fun N => ?_
    repeat' (first | refine zt ?_ | (refine isR ?_; first | refine zo ?_ | refine zk c1 ?_ | refine zk c2 ?_ | refine zk c3 ?_ | refine zk c4 ?_ | refine zL ?_ | refine zc3 ?_ | (refine zs3 ?_ ?_ <;> intro hc)) | refine awp_split rfl (fun hb => ?_) (fun hb => ?_) | refine zr ?_ | exact x_le)
    rfl
/-- A fact that no 'assumption' looks into. -/
structure Hid (p : Prop) : Prop where
  out : p
theorem min_sat (m d : Nat) : (if (10 * (m : Int) + ((d : Nat) : Int)) < 1000000000000 then (10 * (m : Int) + ((d : Nat) : Int)) else 1000000000000) = ((min ageM (10 * m + d) : Nat) : Int) := by
  have : ageM = 1000000000000 := rfl
  split <;> omega
set_option maxRecDepth 100000 in
set_option maxHeartbeats 4000000 in
theorem age_v {s : List UInt8} (hs0 : s.length ≤ 140737488355328) : ACalls Tryz.prog 10 [strT s] (.tup [.int .i64 (ageF s).1, .bool (ageF s).2]) := ACalls.lim fun hl => by
  obtain ⟨hl, _⟩ := TreeW.str_lim hl
  have c1 := cutPrefix_v (l := s) (m := [45])
  have hle : (cutP s [45]).1.length ≤ s.length := by unfold cutP; split <;> simp
  unfold ageF
  generalize cutP s [45] = p at *
  obtain ⟨t, minus⟩ := p
  dsimp only at *
  have hx : ((t.map byteT).length : Int) = (t.length : Int) := by simp
  refine fun1 tb_ok Tryz.func10 rfl Tryz.ntmps10 Tryz.results10 rfl fun N => ?_
  repeat' (first | refine zt ?_ | (refine isR ?_; first | refine zo ?_ | refine zk c1 ?_ | refine zA ?_ | refine zL ?_ | refine zc1 ?_ | refine zc3 ?_ | refine zc6 ?_ | refine zI ?_ | refine zB ?_ | (refine zs1 ?_ ?_ <;> intro hc) | (refine zs3 ?_ ?_ <;> intro hc) | (refine zs6 ?_ ?_ <;> intro hc)) | refine awp_split rfl (fun hb => ?_) (fun hb => ?_) | refine zr ?_ | exact x_le)
  refine awp_for (fun k => ⟨[(0, strT t), (2, .int .i64 ((satF (t.take k) : Nat) : Int)), (3, .bool false), (4, .bool minus), (13, .fro (t.map byteT)), (14, .int .i64 (t.map byteT).length), (15, .int .i64 (k : Int))], [], 0, 39⟩) (fun k => k ≤ t.length ∧ Upto digB t k) t.length 0 ?_ ⟨Nat.zero_le _, upto0⟩ ?_
  · have e : satF (t.take 0) = 0 := sat_nil
    rw [e]
    exact (by exact x_le)
  intro k ⟨hk, hq⟩
  have hs := sat_le (t.take k)
  by_cases hk2 : k < t.length
  · have e1 : (t.map byteT)[k]? = some (byteT t[k]) := by simp [hk2]
    have e2 : t[k]? = some t[k] := by simp [hk2]
    have e3 : satF (t.take (k + 1)) = min ageM (10 * satF (t.take k) + (t[k].toNat - 48)) := by rw [List.take_succ_eq_append_getElem hk2, sat_snoc]
    generalize t[k] = c at e1 e2 e3
    have hc := c.toNat_lt
    generalize satF (t.take k) = m at *
    cases hd : digB c with
    | true =>
      have hn : 48 ≤ c.toNat ∧ c.toNat ≤ 57 := by unfold digB at hd; simpa using hd
      have hw : IntKind.u8.wrap ((c.toNat : Int) - 48) = ((c.toNat - 48 : Nat) : Int) := by
        simp only [IntKind.wrap, IntKind.bits, IntKind.signed]; simp; omega
      have hb : min ageM (10 * m + (c.toNat - 48)) ≤ 1000000000000 := Nat.min_le_left _ _
      have hm := min_sat m (c.toNat - 48)
      generalize min ageM (10 * m + (c.toNat - 48)) = q at *
      replace hm := Hid.mk hm
      repeat' (first | refine zt ?_ | (refine isR ?_; first | refine zo ?_ | refine x_subK ?_ | refine x_min (q : Int) (h := hm.1) ?_ | refine zA ?_ | refine zL ?_ | refine zc1 ?_ | refine zc3 ?_ | refine zc6 ?_ | refine zI ?_ | refine zB ?_ | (refine zs1 ?_ ?_ <;> intro hc) | (refine zs3 ?_ ?_ <;> intro hc) | (refine zs6 ?_ ?_ <;> intro hc)) | refine awp_split rfl (fun hb => ?_) (fun hb => ?_) | refine zr ?_ | exact x_le)
      refine ⟨⟨by omega, hq.on e2 hd⟩, hk2, ?_⟩
      rw [e3]
      exact (by exact x_le)
    | false =>
      have hn : ¬ (t.all digB = true ∧ t ≠ []) := fun hh => by
        have := List.all_eq_true.1 hh.1 c (List.mem_of_getElem? e2)
        rw [hd] at this; cases this
      rw [if_neg hn]
      unfold digB at hd
      simp only [Bool.and_eq_false_iff, decide_eq_false_iff_not] at hd
      repeat' (first | refine zt ?_ | (refine isR ?_; first | refine zo ?_ | refine zA ?_ | refine zL ?_ | refine zc1 ?_ | refine zc3 ?_ | refine zc6 ?_ | refine zI ?_ | refine zB ?_ | (refine zs1 ?_ ?_ <;> intro hc) | (refine zs3 ?_ ?_ <;> intro hc) | (refine zs6 ?_ ?_ <;> intro hc)) | refine awp_split rfl (fun hb => ?_) (fun hb => ?_) | refine zr ?_ | exact x_le)
      all_goals first | rfl | (exfalso; omega)
  · have hall : t.all digB = true := hq.all hk2
    have e0 : t.take k = t := List.take_of_length_le (by omega)
    rw [e0]
    rw [e0] at hs
    by_cases h0 : t = []
    · rw [if_neg (fun hh => hh.2 h0)]
      have e4 : satF t = 0 := by rw [h0]; exact sat_nil
      rw [e4]
      cases minus
      · skip
        repeat' (first | refine zt ?_ | (refine isR ?_; first | refine zo ?_ | refine x_neg ?_ | refine zA ?_ | refine zL ?_ | refine zc1 ?_ | refine zc3 ?_ | refine zc6 ?_ | refine zI ?_ | refine zB ?_ | (refine zs1 ?_ ?_ <;> intro hc) | (refine zs3 ?_ ?_ <;> intro hc) | (refine zs6 ?_ ?_ <;> intro hc)) | refine awp_split rfl (fun hb => ?_) (fun hb => ?_) | refine zr ?_ | exact x_le)
        rfl
      · skip
        repeat' (first | refine zt ?_ | (refine isR ?_; first | refine zo ?_ | refine x_neg ?_ | refine zA ?_ | refine zL ?_ | refine zc1 ?_ | refine zc3 ?_ | refine zc6 ?_ | refine zI ?_ | refine zB ?_ | (refine zs1 ?_ ?_ <;> intro hc) | (refine zs3 ?_ ?_ <;> intro hc) | (refine zs6 ?_ ?_ <;> intro hc)) | refine awp_split rfl (fun hb => ?_) (fun hb => ?_) | refine zr ?_ | exact x_le)
        rfl
    · rw [if_pos ⟨hall, h0⟩]
      generalize satF t = m at *
      cases minus
      · skip
        repeat' (first | refine zt ?_ | (refine isR ?_; first | refine zo ?_ | refine x_neg ?_ | refine zA ?_ | refine zL ?_ | refine zc1 ?_ | refine zc3 ?_ | refine zc6 ?_ | refine zI ?_ | refine zB ?_ | (refine zs1 ?_ ?_ <;> intro hc) | (refine zs3 ?_ ?_ <;> intro hc) | (refine zs6 ?_ ?_ <;> intro hc)) | refine awp_split rfl (fun hb => ?_) (fun hb => ?_) | refine zr ?_ | exact x_le)
        rfl
      · skip
        repeat' (first | refine zt ?_ | (refine isR ?_; first | refine zo ?_ | refine x_neg ?_ | refine zA ?_ | refine zL ?_ | refine zc1 ?_ | refine zc3 ?_ | refine zc6 ?_ | refine zI ?_ | refine zB ?_ | (refine zs1 ?_ ?_ <;> intro hc) | (refine zs3 ?_ ?_ <;> intro hc) | (refine zs6 ?_ ?_ <;> intro hc)) | refine awp_split rfl (fun hb => ?_) (fun hb => ?_) | refine zr ?_ | exact x_le)
        rfl
/-! ### The maker -/
abbrev mkV (f : From) (now : Int) (m : Mk) : Abs.V := .agg [strT m.c.name, strT m.c.value, strT m.c.domain, strT m.c.path, .bool m.c.hostOnly, .bool m.c.secure, .bool m.c.httpOnly, .bool m.c.lasting, .int .i64 m.c.site, .int .i64 m.c.expiry, .int .i64 m.c.created, .int .i64 m.c.used, .int .i64 m.c.no, strT f.host, strT f.path, .bool f.secure, .bool f.script, .bool f.abroad, .int .i64 now, .bool m.aged, .bool m.told, .bool m.deep]
abbrev rowM (f : From) (now : Int) (m : Mk) : Blk := .els 56 22 [mkV f now m]
set_option maxRecDepth 100000 in
set_option maxHeartbeats 4000000 in
theorem attribute_v {g : Glob} (hg : HasMax g) {f : From} {now : Int} {m : Mk} {a : Attr} (ha : a.value.length ≤ 140737488355328) (hf : f.path.length ≤ 400) (hnow : isB now = true) : MCallsG Tryz.prog g 30 [.loc 0 0 0, a.v] [rowM f now m] (.tup []) [some (rowM f now (attrF f now m a))] := by
  have c1 := read_v hg (s := a.value)
  have c2 := age_v (s := a.value) ha
  have c3 := trimPrefix_v (l := a.value) (m := [46])
  have c4 := fold_v (l := (cutP a.value [46]).1)
  have c5 := default_v hf
  have c6 := hasPrefix_v (l := a.value) (m := [47])
  have c7 := fold_v (l := a.value)
  have c8 := after_v (s := (ageF a.value).1) hnow
  have ed : dotF a.value = (cutP a.value [46]).1 := rfl
  have es : siteF a.value = if fold a.value = ([110, 111, 110, 101] : List UInt8) then 1 else if fold a.value = ([108, 97, 120] : List UInt8) then 2 else if fold a.value = ([115, 116, 114, 105, 99, 116] : List UInt8) then 3 else 0 := rfl
  unfold attrF
  rw [ed, es]
  obtain ⟨n, v⟩ := a
  obtain ⟨f1, f2, f3, f4, f5⟩ := f
  obtain ⟨⟨d1, d2, d3, d4, d5, d6, d7, d8, d9, d10, d11, d12, d13⟩, m1, m2, m3⟩ := m
  dsimp only at *
  generalize readF v = q1 at *
  generalize ageF v = q2 at *
  generalize cutP v [46] = q3 at *
  generalize PathW.dflt f2 = q4 at *
  generalize pre v [47] = q5 at *
  generalize fold v = q6 at *
  generalize fold q3.1 = q7 at *
  generalize afterF now q2.1 = q8 at *
  obtain ⟨q11, q12⟩ := q1
  obtain ⟨q21, q22⟩ := q2
  obtain ⟨q31, q32⟩ := q3
  dsimp only at *
  by_cases h1 : n = ([101, 120, 112, 105, 114, 101, 115] : List UInt8)
  · rw [if_pos (show n = nExp from h1)]
    by_cases h : q12 = 0
    · rw [if_pos h]
      cases m1
      · skip
        refine mfunG tb_ok Tryz.func30 rfl Tryz.ntmps30 Tryz.results30 rfl rfl rfl rfl fun N pl => ?_
        repeat' (first | refine zt ?_ | (refine isR ?_; first | refine zo ?_ | refine zk c1 ?_ | refine zA ?_ | refine zc1 ?_ | refine zc3 ?_ | refine zc5 ?_ | refine zc6 ?_ | refine zI ?_ | (refine zs1 ?_ ?_ <;> intro hc) | (refine zs3 ?_ ?_ <;> intro hc) | (refine zs5 ?_ ?_ <;> intro hc) | (refine zs6 ?_ ?_ <;> intro hc)) | refine awp_split rfl (fun hb => ?_) (fun hb => ?_) | refine x_mret [0] ?_ ?_ | refine x_mnor [0] ?_ ?_ | refine zr ?_ | exact x_le)
        · rfl
        · exact .on (.ren rfl) .nil
      · skip
        refine mfunG tb_ok Tryz.func30 rfl Tryz.ntmps30 Tryz.results30 rfl rfl rfl rfl fun N pl => ?_
        repeat' (first | refine zt ?_ | (refine isR ?_; first | refine zo ?_ | refine zk c1 ?_ | refine zA ?_ | refine zc1 ?_ | refine zc3 ?_ | refine zc5 ?_ | refine zc6 ?_ | refine zI ?_ | (refine zs1 ?_ ?_ <;> intro hc) | (refine zs3 ?_ ?_ <;> intro hc) | (refine zs5 ?_ ?_ <;> intro hc) | (refine zs6 ?_ ?_ <;> intro hc)) | refine awp_split rfl (fun hb => ?_) (fun hb => ?_) | refine x_mret [0] ?_ ?_ | refine x_mnor [0] ?_ ?_ | refine zr ?_ | exact x_le)
        · rfl
        · exact .on (.ren rfl) .nil
    · rw [if_neg h]
      refine mfunG tb_ok Tryz.func30 rfl Tryz.ntmps30 Tryz.results30 rfl rfl rfl rfl fun N pl => ?_
      repeat' (first | refine zt ?_ | (refine isR ?_; first | refine zo ?_ | refine zk c1 ?_ | refine zA ?_ | refine zc1 ?_ | refine zc3 ?_ | refine zc5 ?_ | refine zc6 ?_ | refine zI ?_ | (refine zs1 ?_ ?_ <;> intro hc) | (refine zs3 ?_ ?_ <;> intro hc) | (refine zs5 ?_ ?_ <;> intro hc) | (refine zs6 ?_ ?_ <;> intro hc)) | refine awp_split rfl (fun hb => ?_) (fun hb => ?_) | refine x_mret [0] ?_ ?_ | refine x_mnor [0] ?_ ?_ | refine zr ?_ | exact x_le)
      · rfl
      · exact .on (.ren rfl) .nil
  rw [if_neg (show ¬ n = nExp from h1)]
  by_cases h2 : n = ([109, 97, 120, 45, 97, 103, 101] : List UInt8)
  · rw [if_pos (show n = nAge from h2)]
    cases q22
    · rw [if_neg (by decide)]
      refine mfunG tb_ok Tryz.func30 rfl Tryz.ntmps30 Tryz.results30 rfl rfl rfl rfl fun N pl => ?_
      repeat' (first | refine zt ?_ | (refine isR ?_; first | refine zo ?_ | refine zk c2 ?_ | refine zA ?_ | refine zc1 ?_ | refine zc3 ?_ | refine zc5 ?_ | refine zc6 ?_ | refine zI ?_ | (refine zs1 ?_ ?_ <;> intro hc) | (refine zs3 ?_ ?_ <;> intro hc) | (refine zs5 ?_ ?_ <;> intro hc) | (refine zs6 ?_ ?_ <;> intro hc)) | refine awp_split rfl (fun hb => ?_) (fun hb => ?_) | refine x_mret [0] ?_ ?_ | refine x_mnor [0] ?_ ?_ | refine zr ?_ | exact x_le)
      · rfl
      · exact .on (.ren rfl) .nil
    · rw [if_pos rfl]
      by_cases h : 0 < q21
      · rw [if_pos h]
        refine mfunG tb_ok Tryz.func30 rfl Tryz.ntmps30 Tryz.results30 rfl rfl rfl rfl fun N pl => ?_
        repeat' (first | refine zt ?_ | (refine isR ?_; first | refine zo ?_ | refine zk c2 ?_ | refine zk c8 ?_ | refine zA ?_ | refine zc1 ?_ | refine zc3 ?_ | refine zc5 ?_ | refine zc6 ?_ | refine zI ?_ | (refine zs1 ?_ ?_ <;> intro hc) | (refine zs3 ?_ ?_ <;> intro hc) | (refine zs5 ?_ ?_ <;> intro hc) | (refine zs6 ?_ ?_ <;> intro hc)) | refine awp_split rfl (fun hb => ?_) (fun hb => ?_) | refine x_mret [0] ?_ ?_ | refine x_mnor [0] ?_ ?_ | refine zr ?_ | exact x_le)
        · rfl
        · exact .on (.ren rfl) .nil
      · rw [if_neg h]
        refine mfunG tb_ok Tryz.func30 rfl Tryz.ntmps30 Tryz.results30 rfl rfl rfl rfl fun N pl => ?_
        repeat' (first | refine zt ?_ | (refine isR ?_; first | refine zo ?_ | refine zk c2 ?_ | refine zk c8 ?_ | refine zA ?_ | refine zc1 ?_ | refine zc3 ?_ | refine zc5 ?_ | refine zc6 ?_ | refine zI ?_ | (refine zs1 ?_ ?_ <;> intro hc) | (refine zs3 ?_ ?_ <;> intro hc) | (refine zs5 ?_ ?_ <;> intro hc) | (refine zs6 ?_ ?_ <;> intro hc)) | refine awp_split rfl (fun hb => ?_) (fun hb => ?_) | refine x_mret [0] ?_ ?_ | refine x_mnor [0] ?_ ?_ | refine zr ?_ | exact x_le)
        · rfl
        · exact .on (.ren rfl) .nil
  rw [if_neg (show ¬ n = nAge from h2)]
  by_cases h3 : n = ([100, 111, 109, 97, 105, 110] : List UInt8)
  · rw [if_pos (show n = nDom from h3)]
    by_cases h : q31 = []
    · rw [if_pos h]
      refine mfunG tb_ok Tryz.func30 rfl Tryz.ntmps30 Tryz.results30 rfl rfl rfl rfl fun N pl => ?_
      repeat' (first | refine zt ?_ | (refine isR ?_; first | refine zo ?_ | refine zk c3 ?_ | refine zA ?_ | refine zc1 ?_ | refine zc3 ?_ | refine zc5 ?_ | refine zc6 ?_ | refine zI ?_ | (refine zs1 ?_ ?_ <;> intro hc) | (refine zs3 ?_ ?_ <;> intro hc) | (refine zs5 ?_ ?_ <;> intro hc) | (refine zs6 ?_ ?_ <;> intro hc)) | refine awp_split rfl (fun hb => ?_) (fun hb => ?_) | refine x_mret [0] ?_ ?_ | refine x_mnor [0] ?_ ?_ | refine zr ?_ | exact x_le)
      · rfl
      · exact .on (.ren rfl) .nil
    · rw [if_neg h]
      refine mfunG tb_ok Tryz.func30 rfl Tryz.ntmps30 Tryz.results30 rfl rfl rfl rfl fun N pl => ?_
      repeat' (first | refine zt ?_ | (refine isR ?_; first | refine zo ?_ | refine zk c3 ?_ | refine zk c4 ?_ | refine zA ?_ | refine zc1 ?_ | refine zc3 ?_ | refine zc5 ?_ | refine zc6 ?_ | refine zI ?_ | (refine zs1 ?_ ?_ <;> intro hc) | (refine zs3 ?_ ?_ <;> intro hc) | (refine zs5 ?_ ?_ <;> intro hc) | (refine zs6 ?_ ?_ <;> intro hc)) | refine awp_split rfl (fun hb => ?_) (fun hb => ?_) | refine x_mret [0] ?_ ?_ | refine x_mnor [0] ?_ ?_ | refine zr ?_ | exact x_le)
      · rfl
      · exact .on (.ren rfl) .nil
  rw [if_neg (show ¬ n = nDom from h3)]
  by_cases h4 : n = ([112, 97, 116, 104] : List UInt8)
  · rw [if_pos (show n = nPath from h4)]
    cases q5
    · rw [if_neg (by decide)]
      refine mfunG tb_ok Tryz.func30 rfl Tryz.ntmps30 Tryz.results30 rfl rfl rfl rfl fun N pl => ?_
      repeat' (first | refine zt ?_ | (refine isR ?_; first | refine zo ?_ | refine zk c5 ?_ | refine zk c6 ?_ | refine zA ?_ | refine zc1 ?_ | refine zc3 ?_ | refine zc5 ?_ | refine zc6 ?_ | refine zI ?_ | (refine zs1 ?_ ?_ <;> intro hc) | (refine zs3 ?_ ?_ <;> intro hc) | (refine zs5 ?_ ?_ <;> intro hc) | (refine zs6 ?_ ?_ <;> intro hc)) | refine awp_split rfl (fun hb => ?_) (fun hb => ?_) | refine x_mret [0] ?_ ?_ | refine x_mnor [0] ?_ ?_ | refine zr ?_ | exact x_le)
      · rfl
      · exact .on (.ren rfl) .nil
    · rw [if_pos rfl]
      refine mfunG tb_ok Tryz.func30 rfl Tryz.ntmps30 Tryz.results30 rfl rfl rfl rfl fun N pl => ?_
      repeat' (first | refine zt ?_ | (refine isR ?_; first | refine zo ?_ | refine zk c5 ?_ | refine zk c6 ?_ | refine zA ?_ | refine zc1 ?_ | refine zc3 ?_ | refine zc5 ?_ | refine zc6 ?_ | refine zI ?_ | (refine zs1 ?_ ?_ <;> intro hc) | (refine zs3 ?_ ?_ <;> intro hc) | (refine zs5 ?_ ?_ <;> intro hc) | (refine zs6 ?_ ?_ <;> intro hc)) | refine awp_split rfl (fun hb => ?_) (fun hb => ?_) | refine x_mret [0] ?_ ?_ | refine x_mnor [0] ?_ ?_ | refine zr ?_ | exact x_le)
      · rfl
      · exact .on (.ren rfl) .nil
  rw [if_neg (show ¬ n = nPath from h4)]
  by_cases h5 : n = ([115, 101, 99, 117, 114, 101] : List UInt8)
  · rw [if_pos (show n = nSec from h5)]
    refine mfunG tb_ok Tryz.func30 rfl Tryz.ntmps30 Tryz.results30 rfl rfl rfl rfl fun N pl => ?_
    repeat' (first | refine zt ?_ | (refine isR ?_; first | refine zo ?_ | refine zA ?_ | refine zc1 ?_ | refine zc3 ?_ | refine zc5 ?_ | refine zc6 ?_ | refine zI ?_ | (refine zs1 ?_ ?_ <;> intro hc) | (refine zs3 ?_ ?_ <;> intro hc) | (refine zs5 ?_ ?_ <;> intro hc) | (refine zs6 ?_ ?_ <;> intro hc)) | refine awp_split rfl (fun hb => ?_) (fun hb => ?_) | refine x_mret [0] ?_ ?_ | refine x_mnor [0] ?_ ?_ | refine zr ?_ | exact x_le)
    · rfl
    · exact .on (.ren rfl) .nil
  rw [if_neg (show ¬ n = nSec from h5)]
  by_cases h6 : n = ([104, 116, 116, 112, 111, 110, 108, 121] : List UInt8)
  · rw [if_pos (show n = nHttp from h6)]
    refine mfunG tb_ok Tryz.func30 rfl Tryz.ntmps30 Tryz.results30 rfl rfl rfl rfl fun N pl => ?_
    repeat' (first | refine zt ?_ | (refine isR ?_; first | refine zo ?_ | refine zA ?_ | refine zc1 ?_ | refine zc3 ?_ | refine zc5 ?_ | refine zc6 ?_ | refine zI ?_ | (refine zs1 ?_ ?_ <;> intro hc) | (refine zs3 ?_ ?_ <;> intro hc) | (refine zs5 ?_ ?_ <;> intro hc) | (refine zs6 ?_ ?_ <;> intro hc)) | refine awp_split rfl (fun hb => ?_) (fun hb => ?_) | refine x_mret [0] ?_ ?_ | refine x_mnor [0] ?_ ?_ | refine zr ?_ | exact x_le)
    · rfl
    · exact .on (.ren rfl) .nil
  rw [if_neg (show ¬ n = nHttp from h6)]
  by_cases h7 : n = ([115, 97, 109, 101, 115, 105, 116, 101] : List UInt8)
  · rw [if_pos (show n = nSite from h7)]
    by_cases s1 : q6 = ([110, 111, 110, 101] : List UInt8)
    · have s2 : ¬ q6 = ([108, 97, 120] : List UInt8) := by rw [s1]; decide
      have s3 : ¬ q6 = ([115, 116, 114, 105, 99, 116] : List UInt8) := by rw [s1]; decide
      rw [if_pos s1]
      have s1 := s1.symm
      have s2 := fun e => s2 (Eq.symm e)
      have s3 := fun e => s3 (Eq.symm e)
      refine mfunG tb_ok Tryz.func30 rfl Tryz.ntmps30 Tryz.results30 rfl rfl rfl rfl fun N pl => ?_
      repeat' (first | with_reducible refine rounds_on ?_ | with_reducible refine awp_rounds 5 ?_ | refine zt ?_ | (refine isR ?_; first | refine zo ?_ | refine zk c7 ?_ | refine zA ?_ | refine zc1 ?_ | refine zc3 ?_ | refine zc5 ?_ | refine zc6 ?_ | refine zI ?_ | (refine zs1 ?_ ?_ <;> intro hc) | (refine zs3 ?_ ?_ <;> intro hc) | (refine zs5 ?_ ?_ <;> intro hc) | (refine zs6 ?_ ?_ <;> intro hc)) | refine awp_split rfl (fun hb => ?_) (fun hb => ?_) | refine x_mret [0] ?_ ?_ | refine x_mnor [0] ?_ ?_ | refine zr ?_ | exact x_le)
      · rfl
      · exact .on (.ren rfl) .nil
    rw [if_neg s1]
    by_cases s2 : q6 = ([108, 97, 120] : List UInt8)
    · have s3 : ¬ q6 = ([115, 116, 114, 105, 99, 116] : List UInt8) := by rw [s2]; decide
      rw [if_pos s2]
      have s1 := fun e => s1 (Eq.symm e)
      have s2 := s2.symm
      have s3 := fun e => s3 (Eq.symm e)
      refine mfunG tb_ok Tryz.func30 rfl Tryz.ntmps30 Tryz.results30 rfl rfl rfl rfl fun N pl => ?_
      repeat' (first | with_reducible refine rounds_on ?_ | with_reducible refine awp_rounds 5 ?_ | refine zt ?_ | (refine isR ?_; first | refine zo ?_ | refine zk c7 ?_ | refine zA ?_ | refine zc1 ?_ | refine zc3 ?_ | refine zc5 ?_ | refine zc6 ?_ | refine zI ?_ | (refine zs1 ?_ ?_ <;> intro hc) | (refine zs3 ?_ ?_ <;> intro hc) | (refine zs5 ?_ ?_ <;> intro hc) | (refine zs6 ?_ ?_ <;> intro hc)) | refine awp_split rfl (fun hb => ?_) (fun hb => ?_) | refine x_mret [0] ?_ ?_ | refine x_mnor [0] ?_ ?_ | refine zr ?_ | exact x_le)
      · rfl
      · exact .on (.ren rfl) .nil
    rw [if_neg s2]
    by_cases s3 : q6 = ([115, 116, 114, 105, 99, 116] : List UInt8)
    · rw [if_pos s3]
      have s1 := fun e => s1 (Eq.symm e)
      have s2 := fun e => s2 (Eq.symm e)
      have s3 := s3.symm
      refine mfunG tb_ok Tryz.func30 rfl Tryz.ntmps30 Tryz.results30 rfl rfl rfl rfl fun N pl => ?_
      repeat' (first | with_reducible refine rounds_on ?_ | with_reducible refine awp_rounds 5 ?_ | refine zt ?_ | (refine isR ?_; first | refine zo ?_ | refine zk c7 ?_ | refine zA ?_ | refine zc1 ?_ | refine zc3 ?_ | refine zc5 ?_ | refine zc6 ?_ | refine zI ?_ | (refine zs1 ?_ ?_ <;> intro hc) | (refine zs3 ?_ ?_ <;> intro hc) | (refine zs5 ?_ ?_ <;> intro hc) | (refine zs6 ?_ ?_ <;> intro hc)) | refine awp_split rfl (fun hb => ?_) (fun hb => ?_) | refine x_mret [0] ?_ ?_ | refine x_mnor [0] ?_ ?_ | refine zr ?_ | exact x_le)
      · rfl
      · exact .on (.ren rfl) .nil
    rw [if_neg s3]
    have s1 := fun e => s1 (Eq.symm e)
    have s2 := fun e => s2 (Eq.symm e)
    have s3 := fun e => s3 (Eq.symm e)
    refine mfunG tb_ok Tryz.func30 rfl Tryz.ntmps30 Tryz.results30 rfl rfl rfl rfl fun N pl => ?_
    repeat' (first | with_reducible refine rounds_on ?_ | with_reducible refine awp_rounds 5 ?_ | refine zt ?_ | (refine isR ?_; first | refine zo ?_ | refine zk c7 ?_ | refine zA ?_ | refine zc1 ?_ | refine zc3 ?_ | refine zc5 ?_ | refine zc6 ?_ | refine zI ?_ | (refine zs1 ?_ ?_ <;> intro hc) | (refine zs3 ?_ ?_ <;> intro hc) | (refine zs5 ?_ ?_ <;> intro hc) | (refine zs6 ?_ ?_ <;> intro hc)) | refine awp_split rfl (fun hb => ?_) (fun hb => ?_) | refine x_mret [0] ?_ ?_ | refine x_mnor [0] ?_ ?_ | refine zr ?_ | exact x_le)
    · rfl
    · exact .on (.ren rfl) .nil
  rw [if_neg (show ¬ n = nSite from h7)]
  refine mfunG tb_ok Tryz.func30 rfl Tryz.ntmps30 Tryz.results30 rfl rfl rfl rfl fun N pl => ?_
  repeat' (first | refine zt ?_ | (refine isR ?_; first | refine zo ?_ | refine zA ?_ | refine zc1 ?_ | refine zc3 ?_ | refine zc5 ?_ | refine zc6 ?_ | refine zI ?_ | (refine zs1 ?_ ?_ <;> intro hc) | (refine zs3 ?_ ?_ <;> intro hc) | (refine zs5 ?_ ?_ <;> intro hc) | (refine zs6 ?_ ?_ <;> intro hc)) | refine awp_split rfl (fun hb => ?_) (fun hb => ?_) | refine x_mret [0] ?_ ?_ | refine x_mnor [0] ?_ ?_ | refine zr ?_ | exact x_le)
  · rfl
  · exact .on (.ren rfl) .nil
end Go.Proofs.YtkgdkpiacencjaaGreatDoor.CookW
end

section
namespace Go.Proofs.YtkgdkpiacencjaaGreatDoor.HeadL
open Abs TreeW WordP WordS HeadP

theorem contains_iff {l : List UInt8} {c : UInt8} : l.contains c = false ↔ c ∉ l := by
  rw [← Bool.not_eq_true, List.contains_iff_mem]
theorem letF_iff {l : List UInt8} : letF l = true ↔ ∀ c ∈ l, badB c = false := by
  unfold letF
  rw [List.all_eq_true]
  exact ⟨fun h c hc => by simpa using h c hc, fun h c hc => by simpa using h c hc⟩
/-- A text that stands as it is in a part. -/
def Fits (l : List UInt8) : Prop := ∀ c ∈ l, badB c = false ∧ c ≠ 59
theorem plain_iff {l : List UInt8} : plainF l = true ↔ trim l = l ∧ Fits l := by
  unfold plainF Fits
  rw [Bool.and_eq_true, Bool.and_eq_true, decide_eq_true_eq, letF_iff, Bool.not_eq_true', contains_iff]
  constructor
  · rintro ⟨h1, h2, h3⟩
    exact ⟨h1, fun c hc => ⟨h2 c hc, fun e => h3 (e ▸ hc)⟩⟩
  · rintro ⟨h1, h2⟩
    exact ⟨h1, fun c hc => (h2 c hc).1, fun h => (h2 59 h).2 rfl⟩
theorem named_iff {l : List UInt8} : namedF l = true ↔ l ≠ [] ∧ trim l = l ∧ Fits l ∧ 61 ∉ l := by
  unfold namedF
  rw [Bool.and_eq_true, Bool.and_eq_true, Bool.not_eq_true', decide_eq_false_iff_not, plain_iff, Bool.not_eq_true', contains_iff]
  constructor
  · rintro ⟨h1, ⟨h2, h3⟩, h4⟩; exact ⟨h1, h2, h3, h4⟩
  · rintro ⟨h1, h2, h3, h4⟩; exact ⟨h1, ⟨h2, h3⟩, h4⟩
theorem okA_iff {a : Attr} : okA a = true ↔ namedF a.name = true ∧ fold a.name = a.name ∧ plainF a.value = true := by
  unfold okA
  rw [Bool.and_eq_true, Bool.and_eq_true, decide_eq_true_eq]
theorem check_iff {r : Raw} : checkF r = 0 ↔ namedF r.name = true ∧ plainF r.value = true ∧ (∀ a ∈ r.attrs, okA a = true) ∧ r.attrs.length ≤ 12 := by
  unfold checkF
  constructor
  · intro h
    split at h
    · rename_i h1
      rw [Bool.and_eq_true, Bool.and_eq_true, List.all_eq_true] at h1
      split at h
      · cases h
      · exact ⟨h1.1, h1.2.1, h1.2.2, by omega⟩
    · cases h
  · rintro ⟨h1, h2, h3, h4⟩
    have : (namedF r.name && (plainF r.value && r.attrs.all okA)) = true := by
      rw [Bool.and_eq_true, Bool.and_eq_true, List.all_eq_true]; exact ⟨h1, h2, h3⟩
    rw [if_pos this, if_neg (by omega)]
/-! ### Parts -/
theorem split_cat {c : UInt8} {g : Attr → List UInt8} : ∀ {L : List Attr} {a : List UInt8}, c ∉ a → (∀ x ∈ L, c ∉ g x) → split c (a ++ L.flatMap fun x => c :: g x) = a :: L.map g
  | [], a, h, _ => by simpa using split_none c a (contains_iff.2 h)
  | x :: L, a, h, k => by
    have ih := split_cat (L := L) (k x (by simp)) fun y hy => k y (by simp [hy])
    rw [List.flatMap_cons, List.cons_append, split_app c a _ (contains_iff.2 h), ih]
    rfl
theorem blank_trim (l : List UInt8) : trim (32 :: l) = trim l := by
  unfold trim
  rw [List.dropWhile_cons, if_pos (by decide)]
theorem fits_app {a b : List UInt8} : Fits (a ++ b) ↔ Fits a ∧ Fits b := ⟨fun h => ⟨fun c hc => h c (by simp [hc]), fun c hc => h c (by simp [hc])⟩, fun h c hc => by
  rcases List.mem_append.1 hc with hc | hc
  · exact h.1 c hc
  · exact h.2 c hc⟩
theorem pair_at {n v : List UInt8} (h : 61 ∉ n) : pairF (n ++ 61 :: v) = (trim n, trim v, true) := by
  unfold pairF
  rw [cutF_at (contains_iff.2 h)]
theorem pair_one {n : List UInt8} (h : 61 ∉ n) : pairF n = (trim n, [], false) := by
  unfold pairF
  rw [cutF_none (contains_iff.2 h)]
  rfl
def partT (a : Attr) : List UInt8 := 32 :: a.name ++ (if a.value = [] then [] else 61 :: a.value)
theorem attrT_eq : (fun a => attrT a) = fun a => 59 :: partT a := by funext a; simp [attrT, partT]
theorem part_fits {a : Attr} (h : okA a = true) : Fits (partT a) := by
  obtain ⟨h1, _, h3⟩ := okA_iff.1 h
  obtain ⟨_, _, f1, _⟩ := named_iff.1 h1
  obtain ⟨_, f2⟩ := plain_iff.1 h3
  unfold partT
  refine fits_app.2 ⟨fun c hc => ?_, ?_⟩
  · rcases List.mem_cons.1 hc with rfl | hc
    · exact ⟨by decide, by decide⟩
    · exact f1 c hc
  · split
    · exact fun c hc => by simp at hc
    · intro c hc
      rcases List.mem_cons.1 hc with rfl | hc
      · exact ⟨by decide, by decide⟩
      · exact f2 c hc
theorem attr_part {a : Attr} (h : okA a = true) : attrF (partT a) = some a := by
  obtain ⟨h1, h2, h3⟩ := okA_iff.1 h
  obtain ⟨g1, g2, _, g4⟩ := named_iff.1 h1
  obtain ⟨g5, _⟩ := plain_iff.1 h3
  obtain ⟨n, v⟩ := a
  dsimp only at *
  have h61 : 61 ∉ (32 :: n : List UInt8) := by
    intro e
    rcases List.mem_cons.1 e with e | e
    · exact absurd e (by decide)
    · exact g4 e
  unfold attrF partT
  by_cases hv : v = []
  · subst hv
    dsimp only
    rw [if_pos rfl, List.append_nil, pair_one h61, blank_trim, g2, h2, if_neg g1]
  · dsimp only
    rw [if_neg hv, pair_at h61, blank_trim, g2, h2, if_neg g1, g5]
theorem read_of {s p : List UInt8} {r : List (List UInt8)} (h1 : s.length ≤ 400) (h2 : letF s = true) (h3 : split 59 s = p :: r) : rawF s = if (pairF p).2.2 = false ∨ (pairF p).1 = [] then (raw0, 1) else if 12 < (r.filterMap attrF).length then (raw0, 2) else (⟨(pairF p).1, (pairF p).2.1, r.filterMap attrF⟩, 0) := by
  unfold rawF; rw [if_neg (by omega), if_neg (by rw [h2]; simp), h3]
theorem filter_self {L : List Attr} (h : ∀ a ∈ L, okA a = true) : (L.map partT).filterMap attrF = L := by
  induction L with
  | nil => rfl
  | cons a L ih => rw [List.map_cons, List.filterMap_cons, attr_part (h a (by simp)), ih fun b hb => h b (by simp [hb])]
/-- What is written is read as it was. -/
theorem back {r : Raw} (h : checkF r = 0) (hl : (textF r).length ≤ 400) : rawF (textF r) = (r, 0) := by
  obtain ⟨h1, h2, h3, h4⟩ := check_iff.1 h
  obtain ⟨n, v, L⟩ := r
  dsimp only at *
  obtain ⟨g1, g2, g3, g4⟩ := named_iff.1 h1
  obtain ⟨f1, f2⟩ := plain_iff.1 h2
  have hnv : Fits (n ++ 61 :: v) := fits_app.2 ⟨g3, fun c hc => by
    rcases List.mem_cons.1 hc with rfl | hc
    · exact ⟨by decide, by decide⟩
    · exact f2 c hc⟩
  have e : textF ⟨n, v, L⟩ = (n ++ 61 :: v) ++ L.flatMap fun x => 59 :: partT x := by
    unfold textF
    show n ++ 61 :: v ++ L.flatMap (fun a => attrT a) = _
    rw [attrT_eq]
  have hs : split 59 (textF ⟨n, v, L⟩) = (n ++ 61 :: v) :: L.map partT := by
    rw [e]
    exact split_cat (fun hc => (hnv 59 hc).2 rfl) fun x hx hc => (part_fits (h3 x hx) 59 hc).2 rfl
  have hlet : letF (textF ⟨n, v, L⟩) = true := by
    refine letF_iff.2 fun c hc => ?_
    rw [e, List.mem_append, List.mem_flatMap] at hc
    rcases hc with hc | ⟨x, hx, hc⟩
    · exact (hnv c hc).1
    · rcases List.mem_cons.1 hc with rfl | hc
      · decide
      · exact (part_fits (h3 x hx) c hc).1
  rw [read_of hl hlet hs, pair_at g4, filter_self h3, g2, f1, if_neg (fun h => h.elim (fun h => by cases h) g1), if_neg (by omega)]
end Go.Proofs.YtkgdkpiacencjaaGreatDoor.HeadL
end

section
namespace Go.Proofs.YtkgdkpiacencjaaGreatDoor.CookQ
open Abs TreeW WordP WordS HostP PathT StampG ClockP ClockW ClockO ClockV CookP

theorem cook_err {L : List Suffix} {r : Raw} {f : From} {now : Int} (h : (cookF L r f now).2 ≠ 0) : (cookF L r f now).1 = cook0 := by
  unfold cookF endF at h ⊢
  split
  · rfl
  split
  · rfl
  split
  · rfl
  split
  · rfl
  split
  · rfl
  · rename_i h1 h2 h3 h4 h5
    rw [if_neg h1, if_neg h2, if_neg h3, if_neg h4, if_neg h5] at h
    exact absurd rfl h
theorem cook_ok {L : List Suffix} {r : Raw} {f : From} {now : Int} (h : (cookF L r f now).2 = 0) : SufP.checkF L = 0 ∧ HeadP.checkF r = 0 ∧ readyF f now = 0 ∧ (ownF L f (makerF r f now)).1 = 0 ∧ barF f (ownF L f (makerF r f now)).2 = false ∧ (cookF L r f now).1 = (ownF L f (makerF r f now)).2.c := by
  unfold cookF at h ⊢
  by_cases h1 : SufP.checkF L = 0
  · rw [if_neg (fun hn => hn h1)] at h ⊢
    by_cases h2 : HeadP.checkF r = 0
    · rw [if_neg (fun hn => hn h2)] at h ⊢
      by_cases h3 : readyF f now = 0
      · rw [if_neg (fun hn => hn h3)] at h ⊢
        unfold endF at h ⊢
        by_cases h4 : (ownF L f (makerF r f now)).1 = 0
        · rw [if_neg (fun hn => hn h4)] at h ⊢
          cases h5 : barF f (ownF L f (makerF r f now)).2 with
          | false => exact ⟨h1, h2, h3, h4, rfl, rfl⟩
          | true => rw [h5, if_pos rfl] at h; exact absurd h (by decide)
        · rw [if_pos h4] at h; exact absurd h h4
      · rw [if_pos h3] at h; exact absurd h h3
    · rw [if_pos h2] at h; exact absurd h h2
  · rw [if_pos h1] at h; exact absurd (by simpa using h) h1
/-- What the maker's cookie is behind 'own', if that is well. -/
structure Owned (L : List Suffix) (f : From) (m n : Mk) : Prop where
  name : n.c.name = m.c.name
  path : n.c.path = m.c.path
  sec : n.c.secure = m.c.secure
  http : n.c.httpOnly = m.c.httpOnly
  told : n.told = m.told
  deep : n.deep = m.deep
  expiry : n.c.expiry = m.c.expiry
  lasting : n.c.lasting = m.c.lasting
  owner : (n.c.hostOnly = true ∧ n.c.domain = f.host) ∨ (n.c.hostOnly = false ∧ SufP.hostOk n.c.domain = true ∧ SufP.pubF L n.c.domain ≠ n.c.domain ∧ matchF f.host n.c.domain = true ∧ m.told = true)
theorem own_ok {L : List Suffix} {f : From} {m : Mk} (h : (ownF L f m).1 = 0) (h0 : m.c.hostOnly = false) : Owned L f m (ownF L f m).2 := by
  unfold ownF at h ⊢
  by_cases h1 : m.told = false
  · rw [if_pos h1]
    exact ⟨rfl, rfl, rfl, rfl, rfl, rfl, rfl, rfl, .inl ⟨rfl, rfl⟩⟩
  · rw [if_neg h1] at h ⊢
    by_cases h2 : SufP.hostOk m.c.domain = false
    · rw [if_pos h2] at h; exact absurd h (show ¬ (1 : Int) = 0 by decide)
    · rw [if_neg h2] at h ⊢
      by_cases h3 : SufP.pubF L m.c.domain = m.c.domain
      · rw [if_pos h3] at h ⊢
        by_cases h4 : m.c.domain = f.host
        · exact ⟨rfl, rfl, rfl, rfl, rfl, rfl, rfl, rfl, .inl ⟨rfl, h4⟩⟩
        · dsimp only at h
          rw [if_neg h4] at h; exact absurd h (by decide)
      · rw [if_neg h3] at h ⊢
        by_cases h4 : matchF f.host m.c.domain = true
        · exact ⟨rfl, rfl, rfl, rfl, rfl, rfl, rfl, rfl, .inr ⟨h0, by simpa using h2, h3, h4, by simpa using h1⟩⟩
        · dsimp only at h
          rw [if_neg h4] at h; exact absurd h (by decide)
theorem maker_host (r : Raw) (f : From) (now : Int) : (makerF r f now).c.hostOnly = false ∧ (makerF r f now).c.name = r.name := by
  unfold makerF
  rw [maker_spec]
  exact ⟨rfl, rfl⟩
theorem cook_owned {L : List Suffix} {r : Raw} {f : From} {now : Int} (h : (cookF L r f now).2 = 0) : Owned L f (makerF r f now) (ownF L f (makerF r f now)).2 := own_ok (cook_ok h).2.2.2.1 (maker_host r f now).1
theorem domain_plain {L : List Suffix} {r : Raw} {f : From} {now : Int} (h : (cookF L r f now).2 = 0) : ((cookF L r f now).1.hostOnly = true ∧ (cookF L r f now).1.domain = f.host) ∨ ((cookF L r f now).1.hostOnly = false ∧ matchF f.host (cookF L r f now).1.domain = true ∧ SufP.hostOk (cookF L r f now).1.domain = true ∧ SufP.pubF L (cookF L r f now).1.domain ≠ (cookF L r f now).1.domain) := by
  have ho := (cook_owned h).owner
  rw [(cook_ok h).2.2.2.2.2]
  rcases ho with ho | ⟨h1, h2, h3, h4, _⟩
  · exact .inl ho
  · exact .inr ⟨h1, h4, h2, h3⟩
theorem two_pre {n : List UInt8} (h : pre n pSec = true) : pre n pHost = false := by
  obtain ⟨x, rfl⟩ := (pre_iff n pSec).1 h
  exact decide_eq_false (by simp [pSec, pHost])
theorem bars_plain {L : List Suffix} {r : Raw} {f : From} {now : Int} (h : (cookF L r f now).2 = 0) : ((cookF L r f now).1.secure = true → f.secure = true) ∧ ((cookF L r f now).1.httpOnly = true → f.script = false) ∧ (pre (fold (cookF L r f now).1.name) pSec = true → (cookF L r f now).1.secure = true) ∧ (pre (fold (cookF L r f now).1.name) pHost = true → (cookF L r f now).1.secure = true ∧ (cookF L r f now).1.hostOnly = true ∧ (cookF L r f now).1.domain = f.host ∧ (cookF L r f now).1.path = [47]) := by
  have ho := (cook_owned h).owner
  obtain ⟨_, _, _, _, hb, e⟩ := cook_ok h
  rw [e]
  generalize (ownF L f (makerF r f now)).2 = m at *
  unfold barF at hb
  split at hb
  · cases hb
  · rename_i h1
    have h1 : (m.c.httpOnly && f.script) = false ∧ (m.c.secure && !f.secure) = false := by simpa using h1
    refine ⟨fun hs => ?_, fun hs => ?_, ?_⟩
    · have := h1.2; rw [hs] at this; simpa using this
    · have := h1.1; rw [hs] at this; simpa using this
    · split at hb
      · rename_i h2
        exact ⟨fun _ => by simpa using hb, fun h3 => by rw [two_pre h2] at h3; cases h3⟩
      · rename_i h2
        refine ⟨fun h3 => absurd h3 h2, fun h3 => ?_⟩
        rw [if_pos h3] at hb
        simp only [Bool.or_eq_false_iff, Bool.not_eq_false', decide_eq_true_eq] at hb
        refine ⟨hb.1, hb.2.1, ?_, hb.2.2.2.1⟩
        rcases ho with ho | ho
        · exact ho.2
        · rw [ho.1] at hb; exact absurd hb.2.1 (by decide)
/-! ### An end of its own -/
/-- Makers that are alike but for the end. -/
structure Alike (m n : Mk) : Prop where
  name : n.c.name = m.c.name
  domain : n.c.domain = m.c.domain
  path : n.c.path = m.c.path
  host : n.c.hostOnly = m.c.hostOnly
  sec : n.c.secure = m.c.secure
  http : n.c.httpOnly = m.c.httpOnly
  told : n.told = m.told
  deep : n.deep = m.deep
def codeO (L : List Suffix) (f : From) (d : List UInt8) (told : Bool) : Int := if told = false then 0 else if SufP.hostOk d = false then 1 else if SufP.pubF L d = d then (if d = f.host then 0 else 8) else (if matchF f.host d = true then 0 else 8)
def hostO (L : List Suffix) (d : List UInt8) (told h : Bool) : Bool := if told = false then true else if SufP.hostOk d = false then h else if SufP.pubF L d = d then true else h
theorem own_code (L : List Suffix) (f : From) (m : Mk) : (ownF L f m).1 = codeO L f m.c.domain m.told ∧ (ownF L f m).2.c.name = m.c.name ∧ (ownF L f m).2.c.path = m.c.path ∧ (ownF L f m).2.c.hostOnly = hostO L m.c.domain m.told m.c.hostOnly ∧ (ownF L f m).2.c.secure = m.c.secure ∧ (ownF L f m).2.c.httpOnly = m.c.httpOnly ∧ (ownF L f m).2.told = m.told ∧ (ownF L f m).2.deep = m.deep := by
  unfold ownF codeO hostO
  by_cases h1 : m.told = false
  · rw [if_pos h1, if_pos h1, if_pos h1]
    exact ⟨rfl, rfl, rfl, rfl, rfl, rfl, rfl, rfl⟩
  rw [if_neg h1, if_neg h1, if_neg h1]
  by_cases h2 : SufP.hostOk m.c.domain = false
  · rw [if_pos h2, if_pos h2, if_pos h2]
    exact ⟨rfl, rfl, rfl, rfl, rfl, rfl, rfl, rfl⟩
  rw [if_neg h2, if_neg h2, if_neg h2]
  by_cases h3 : SufP.pubF L m.c.domain = m.c.domain
  · rw [if_pos h3, if_pos h3, if_pos h3]
    exact ⟨rfl, rfl, rfl, rfl, rfl, rfl, rfl, rfl⟩
  rw [if_neg h3, if_neg h3, if_neg h3]
  exact ⟨rfl, rfl, rfl, rfl, rfl, rfl, rfl, rfl⟩
theorem end_code (L : List Suffix) (f : From) (m : Mk) : (endF L f m).2 = if (ownF L f m).1 ≠ 0 then (ownF L f m).1 else if barF f (ownF L f m).2 = true then 8 else 0 := by
  unfold endF
  split
  · rfl
  · split <;> rfl
theorem alike_end {L : List Suffix} {f : From} {m n : Mk} (h : Alike m n) : (endF L f n).2 = (endF L f m).2 := by
  obtain ⟨k0, k1, k2, k3, k4, k5, k6, k7⟩ := own_code L f m
  obtain ⟨j0, j1, j2, j3, j4, j5, j6, j7⟩ := own_code L f n
  have e : barF f (ownF L f n).2 = barF f (ownF L f m).2 := by
    unfold barF
    rw [k1, k2, k3, k4, k5, k6, k7, j1, j2, j3, j4, j5, j6, j7, h.name, h.path, h.domain, h.host, h.sec, h.http, h.told, h.deep]
  rw [end_code, end_code, e, k0, j0, h.domain, h.told]
theorem last_nil (n : List UInt8) : lastF [] n = none := rfl
theorem last_one (a : Attr) (n : List UInt8) : lastF [a] n = if a.name = n ∧ saysF a = true then some a.value else none := by
  have := last_snoc [] a n
  rw [List.nil_append] at this
  rw [this, last_nil]
theorem last_two (a b : Attr) (n : List UInt8) : lastF [a, b] n = if b.name = n ∧ saysF b = true then some b.value else if a.name = n ∧ saysF a = true then some a.value else none := by
  have := last_snoc [a] b n
  rw [List.singleton_append] at this
  rw [this, last_one]
theorem last_swap {a b : Attr} (h : a.name ≠ b.name) : lastF [a, b] = lastF [b, a] := by
  funext n
  rw [last_two, last_two]
  by_cases h1 : a.name = n ∧ saysF a = true
  · have h2 : ¬ (b.name = n ∧ saysF b = true) := fun h2 => h (h1.1.trans h2.1.symm)
    simp only [if_pos h1, if_neg h2]
  · simp only [if_neg h1]
theorem maker_swap {r : Raw} {f : From} {now : Int} {a b : Attr} (h : a.name ≠ b.name) : makerF { r with attrs := [a, b] } f now = makerF { r with attrs := [b, a] } f now := by
  unfold makerF
  rw [maker_spec, maker_spec]
  dsimp only
  rw [last_swap h]
  rfl
theorem cook_swap {L : List Suffix} {r : Raw} {f : From} {now : Int} {a b : Attr} (h : a.name ≠ b.name) : cookF L { r with attrs := [a, b] } f now = cookF L { r with attrs := [b, a] } f now := by
  have hc : HeadP.checkF { r with attrs := [a, b] } = HeadP.checkF { r with attrs := [b, a] } := by
    unfold HeadP.checkF
    simp only [List.all_cons, List.all_nil, Bool.and_true, List.length_cons, List.length_nil]
    rw [Bool.and_comm (HeadP.okA a)]
  unfold cookF
  rw [hc, maker_swap h]
/-- The cookie of an age and a date: if it is well, so is that of the age alone, and it is the same one if that is an age. -/
theorem cook_age {L : List Suffix} {r : Raw} {f : From} {now : Int} {a b : List UInt8} (h : (cookF L { r with attrs := [⟨nAge, a⟩, ⟨nExp, b⟩] } f now).2 = 0) :
    (cookF L { r with attrs := [⟨nAge, a⟩] } f now).2 = 0 ∧ ((ageF a).2 = true → cookF L { r with attrs := [⟨nAge, a⟩] } f now = cookF L { r with attrs := [⟨nAge, a⟩, ⟨nExp, b⟩] } f now) ∧
    ((cookF L { r with attrs := [⟨nAge, a⟩, ⟨nExp, b⟩] } f now).1.lasting = true ∨ (cookF L { r with attrs := [⟨nAge, a⟩, ⟨nExp, b⟩] } f now).1.expiry = 253402300799) ∧
    ((ageF a).2 = true → (cookF L { r with attrs := [⟨nAge, a⟩, ⟨nExp, b⟩] } f now).1.lasting = true) := by
  obtain ⟨g1, g2, g3, g4, g5, g6⟩ := cook_ok h
  have ho := cook_owned h
  have hd := domain_plain h
  have e0 : ∀ x : Raw, SufP.checkF L = 0 → HeadP.checkF x = 0 → readyF f now = 0 → cookF L x f now = endF L f (makerF x f now) := fun x k1 k2 k3 => by
    unfold cookF
    rw [if_neg (fun hn => hn k1), if_neg (fun hn => hn k2), if_neg (fun hn => hn k3)]
  have c1 : HeadP.checkF { r with attrs := [⟨nAge, a⟩] } = 0 := by
    obtain ⟨k1, k2, k3, _⟩ := HeadL.check_iff.1 g2
    exact HeadL.check_iff.2 ⟨k1, k2, fun x hx => k3 x (by simp at hx ⊢; exact .inl hx), by simp⟩
  have hx := e0 _ g1 g2 g3
  have hz := e0 _ g1 c1 g3
  have n12 : nAge ≠ nExp := by decide
  have n1 : nAge ≠ nDom := by decide
  have n2 : nAge ≠ nPath := by decide
  have n3 : nAge ≠ nSec := by decide
  have n4 : nAge ≠ nHttp := by decide
  have n5 : nAge ≠ nSite := by decide
  have m1 : nExp ≠ nDom := by decide
  have m2 : nExp ≠ nPath := by decide
  have m3 : nExp ≠ nSec := by decide
  have m4 : nExp ≠ nHttp := by decide
  have m5 : nExp ≠ nSite := by decide
  have m12 : nExp ≠ nAge := by decide
  have sa : saysF ⟨nAge, a⟩ = (ageF a).2 := by unfold saysF; rw [if_neg n12, if_pos rfl]
  have mx : makerF { r with attrs := [⟨nAge, a⟩, ⟨nExp, b⟩] } f now = specF r f now (lastF [⟨nAge, a⟩, ⟨nExp, b⟩]) := by unfold makerF; rw [maker_spec]; rfl
  have mz : makerF { r with attrs := [⟨nAge, a⟩] } f now = specF r f now (lastF [⟨nAge, a⟩]) := by unfold makerF; rw [maker_spec]; rfl
  have q : ∀ n, n ≠ nAge → n ≠ nExp → lastF [⟨nAge, a⟩, ⟨nExp, b⟩] n = none ∧ lastF [⟨nAge, a⟩] n = none := fun n k1 k2 => by
    rw [last_two, last_one]
    exact ⟨by rw [if_neg (fun hh => k2 hh.1.symm), if_neg (fun hh => k1 hh.1.symm)], if_neg fun hh => k1 hh.1.symm⟩
  have qx : lastF [⟨nAge, a⟩, ⟨nExp, b⟩] nAge = if (ageF a).2 = true then some a else none := by
    rw [last_two, if_neg (fun hh => m12 hh.1), sa]
    simp
  have qz : lastF [⟨nAge, a⟩] nAge = if (ageF a).2 = true then some a else none := by
    rw [last_one, sa]
    simp
  have hal : Alike (specF r f now (lastF [⟨nAge, a⟩, ⟨nExp, b⟩])) (specF r f now (lastF [⟨nAge, a⟩])) := by
    unfold specF
    rw [(q nDom n1.symm m1.symm).1, (q nDom n1.symm m1.symm).2, (q nPath n2.symm m2.symm).1, (q nPath n2.symm m2.symm).2, (q nSec n3.symm m3.symm).1, (q nSec n3.symm m3.symm).2, (q nHttp n4.symm m4.symm).1, (q nHttp n4.symm m4.symm).2]
    exact ⟨rfl, rfl, rfl, rfl, rfl, rfl, rfl, rfl⟩
  refine ⟨?_, fun ha => ?_, ?_, fun ha => ?_⟩
  · rw [hz, mz, alike_end hal, ← mx, ← hx]; exact h
  · rw [hx, hz, mx, mz]
    congr 1
    rw [if_pos ha] at qx qz
    unfold specF
    rw [(q nDom n1.symm m1.symm).1, (q nDom n1.symm m1.symm).2, (q nPath n2.symm m2.symm).1, (q nPath n2.symm m2.symm).2, (q nSec n3.symm m3.symm).1, (q nSec n3.symm m3.symm).2, (q nHttp n4.symm m4.symm).1, (q nHttp n4.symm m4.symm).2, (q nSite n5.symm m5.symm).1, (q nSite n5.symm m5.symm).2, qx, qz]
    rfl
  · rw [g6, ho.lasting, ho.expiry, mx]
    unfold specF
    dsimp only
    cases lastF [⟨nAge, a⟩, ⟨nExp, b⟩] nAge with
    | some v => exact .inl rfl
    | none =>
      cases lastF [⟨nAge, a⟩, ⟨nExp, b⟩] nExp with
      | some v => exact .inl rfl
      | none => exact .inr rfl
  · rw [g6, ho.lasting, mx]
    rw [if_pos ha] at qx
    unfold specF
    dsimp only
    rw [qx]
    rfl
/-! ### The last one of a name -/
theorem last_filter (l : List Attr) (k n : List UInt8) (h : n ≠ k) : lastF (l.filter fun a => !decide (a.name = k)) n = lastF l n :=
  HostO.snoc_ind (p := fun l => lastF (l.filter fun a => !decide (a.name = k)) n = lastF l n) rfl (fun l a ih => by
    rw [List.filter_append, last_snoc]
    by_cases ha : a.name = k
    · rw [if_neg (fun hh => h (hh.1.symm.trans ha))]
      simp [ha, ih]
    · have : [a].filter (fun a => !decide (a.name = k)) = [a] := by simp [ha]
      rw [this, last_snoc, ih]) l
theorem maker_last {r : Raw} {f : From} {now : Int} {a : Attr} (h : saysF a = true) : makerF { r with attrs := r.attrs ++ [a] } f now = makerF { r with attrs := (r.attrs.filter fun x => !decide (x.name = a.name)) ++ [a] } f now := by
  unfold makerF
  rw [maker_spec, maker_spec]
  have : lastF (r.attrs ++ [a]) = lastF ((r.attrs.filter fun x => !decide (x.name = a.name)) ++ [a]) := by
    funext n
    rw [last_snoc, last_snoc]
    by_cases hn : a.name = n
    · rw [if_pos ⟨hn, h⟩, if_pos ⟨hn, h⟩]
    · rw [if_neg (fun hh => hn hh.1), if_neg (fun hh => hn hh.1), last_filter _ _ _ (fun e => hn e.symm)]
  dsimp only
  rw [this]
  rfl
theorem check_code (r : Raw) (h : r.attrs.length ≤ 12) : HeadP.checkF r = 0 ∨ HeadP.checkF r = 1 := by
  unfold HeadP.checkF
  split
  · rw [if_neg (by omega)]; exact .inl rfl
  · exact .inr rfl
/-- With one more at the end: an error of form, or the same cookie without those ahead of its name. -/
theorem cook_last {L : List Suffix} {r : Raw} {f : From} {now : Int} {a : Attr} (h : saysF a = true) (hl : r.attrs.length < 12) :
    (cookF L { r with attrs := r.attrs ++ [a] } f now).2 = 1 ∨ cookF L { r with attrs := r.attrs ++ [a] } f now = cookF L { r with attrs := (r.attrs.filter fun x => !decide (x.name = a.name)) ++ [a] } f now := by
  by_cases h1 : SufP.checkF L = 0
  · rcases check_code { r with attrs := r.attrs ++ [a] } (by simp; omega) with h2 | h2
    · right
      have h3 : HeadP.checkF { r with attrs := (r.attrs.filter fun x => !decide (x.name = a.name)) ++ [a] } = 0 := by
        obtain ⟨k1, k2, k3, _⟩ := HeadL.check_iff.1 h2
        refine HeadL.check_iff.2 ⟨k1, k2, fun x hx => k3 x ?_, ?_⟩
        · dsimp only at hx ⊢
          rw [List.mem_append] at hx ⊢
          rcases hx with hx | hx
          · exact .inl ((List.mem_filter.1 hx).1)
          · exact .inr hx
        · dsimp only
          have := List.length_filter_le (fun x : Attr => !decide (x.name = a.name)) r.attrs
          simp only [List.length_append, List.length_singleton]
          omega
      unfold cookF
      rw [h2, h3, maker_last h]
    · left
      unfold cookF
      rw [if_neg (fun hn => hn h1), h2]
      rfl
  · right
    unfold cookF
    rw [if_pos h1, if_pos h1]
/-! ### It goes back -/
theorem goes_back {L : List Suffix} {r : Raw} {f : From} {now : Int} (h : (cookF L r f now).2 = 0) : ((cookF L r f now).1.secure && !f.secure) = false ∧ ((cookF L r f now).1.httpOnly && f.script) = false ∧ (if (cookF L r f now).1.hostOnly then decide (f.host = (cookF L r f now).1.domain) else matchF f.host (cookF L r f now).1.domain) = true := by
  obtain ⟨b1, b2, _, _⟩ := bars_plain h
  refine ⟨?_, ?_, ?_⟩
  · cases hs : (cookF L r f now).1.secure with
    | false => rfl
    | true => rw [b1 hs]; rfl
  · cases hs : (cookF L r f now).1.httpOnly with
    | false => rfl
    | true => rw [b2 hs]; rfl
  · rcases domain_plain h with ⟨h1, h2⟩ | ⟨h1, h2, _⟩
    · rw [h1, h2]; simp
    · rw [h1]; exact h2
end Go.Proofs.YtkgdkpiacencjaaGreatDoor.CookQ
end
