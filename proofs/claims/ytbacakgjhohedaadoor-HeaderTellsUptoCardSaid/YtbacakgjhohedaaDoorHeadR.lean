/- Headers: the walks of Read, Check and Write, and of the document's own. -/
import Derived.Test.YtbacakgjhohedaaDoorWk
import Derived.Test.YtbacakgjhohedaaDoorHeadW
namespace Go.Proofs.YtbacakgjhohedaaDoor.HeadR
open Go.RowKit Mem Abs TreeW WordP WordS HeadP Rune Bld HeadW

instance : DecidableEq Attr := fun a b => if h : a.name = b.name ∧ a.value = b.value then isTrue (by cases a; cases b; cases h.1; cases h.2; rfl) else isFalse (fun e => h (by rw [e]; exact ⟨rfl, rfl⟩))
instance : DecidableEq Raw := fun a b => if h : a.name = b.name ∧ a.value = b.value ∧ a.attrs = b.attrs then isTrue (by cases a; cases b; cases h.1; cases h.2.1; cases h.2.2; rfl) else isFalse (fun e => h (by rw [e]; exact ⟨rfl, rfl, rfl⟩))
def ekA : Ty := (nth tb 37).get rfl
theorem eq_attr (a b : Attr) : eqK ekA a.v b.v = decide (a = b) := by
  have h : eqK ekA a.v b.v = (eqS (strT a.name) (strT b.name) && (eqS (strT a.value) (strT b.value) && true)) := rfl
  rw [h, eqS_str, eqS_str, Bool.and_true]
  obtain ⟨a1, a2⟩ := a
  obtain ⟨b1, b2⟩ := b
  by_cases h1 : a1 = b1 <;> by_cases h2 : a2 = b2 <;> simp [h1, h2]
theorem attr_lim {L : List Attr} {r : List Abs.V} (h : V.LimL (.fro (L.map Attr.v) :: r)) : L.length ≤ 140737488355328 := by have := h.1.1; simpa using this
set_option maxRecDepth 100000 in
set_option maxHeartbeats 4000000 in
theorem indexA_v {L : List Attr} : ACalls Tryd.prog 42 [.fro (L.map Attr.v), .fn (.func 27) [] []] (.int .i64 (firstI (fun a => !okA a) L)) := ACalls.lim fun hl => by
  have hlim := attr_lim hl
  have hx : ((L.map Attr.v).length : Int) = (L.length : Int) := by simp
  refine fun2 tb_ok Tryd.func42 rfl Tryd.ntmps42 Tryd.results42 rfl fun N => ?_
  repeat' (first | refine zt ?_ | (refine isR ?_; first | refine zo ?_ | refine zA ?_ | refine zL ?_ | refine zc1 ?_ | refine zI ?_ | (refine zs1 ?_ ?_ <;> intro hc)) | refine awp_split rfl (fun hb => ?_) (fun hb => ?_) | refine zr ?_ | exact x_le)
  refine awp_for (fun k => ⟨[(0, .fro (L.map Attr.v)), (1, .fn (.func 27) [] []), (7, .int .i64 (L.map Attr.v).length), (8, .int .i64 (k : Int))], [], 0, 19⟩) (fun k => k ≤ L.length ∧ ∀ j y, j < k → L[j]? = some y → (!okA y) = false) L.length 0 (by exact x_le) ⟨Nat.zero_le _, fun j y h => absurd h (Nat.not_lt_zero _)⟩ ?_
  intro k ⟨hk, hp⟩
  by_cases hk2 : k < L.length
  · have e1 : (L.map Attr.v)[k]? = some (L[k]).v := by simp [hk2]
    have e2 : L[k]? = some L[k] := by simp [hk2]
    generalize L[k] = a at e1 e2
    have c1 := okA_v (a := a)
    cases ho : !okA a with
    | true =>
      rw [ho] at c1
      repeat' (first | refine zt ?_ | (refine isR ?_; first | refine zo ?_ | refine x_callv (c1 _) ?_ | refine x_callv (c1) ?_ | refine zA ?_ | refine zL ?_ | refine zc1 ?_ | refine zI ?_ | (refine zs1 ?_ ?_ <;> intro hc)) | refine awp_split rfl (fun hb => ?_) (fun hb => ?_) | refine zr ?_ | exact x_le)
      rw [firstI_at hp e2 ho]; rfl
    | false =>
      rw [ho] at c1
      repeat' (first | refine zt ?_ | (refine isR ?_; first | refine zo ?_ | refine x_callv (c1 _) ?_ | refine x_callv (c1) ?_ | refine zA ?_ | refine zL ?_ | refine zc1 ?_ | refine zI ?_ | (refine zs1 ?_ ?_ <;> intro hc)) | refine awp_split rfl (fun hb => ?_) (fun hb => ?_) | refine zr ?_ | exact x_le)
      refine ⟨⟨by omega, fun j y hj hy => ?_⟩, by omega, (by exact x_le)⟩
      rcases Nat.lt_succ_iff_lt_or_eq.1 hj with h1 | rfl
      · exact hp j y h1 hy
      · rw [e2] at hy; cases hy; exact ho
  · skip
    repeat' (first | refine zt ?_ | (refine isR ?_; first | refine zo ?_ | refine zA ?_ | refine zL ?_ | refine zc1 ?_ | refine zI ?_ | (refine zs1 ?_ ?_ <;> intro hc)) | refine awp_split rfl (fun hb => ?_) (fun hb => ?_) | refine zr ?_ | exact x_le)
    rw [firstI_none fun x hx' => ?_]; rfl
    obtain ⟨i, hi⟩ := List.mem_iff_getElem?.1 hx'
    exact hp i x (by have := (List.getElem?_eq_some_iff.1 hi).1; omega) hi
set_option maxRecDepth 100000 in
set_option maxHeartbeats 4000000 in
theorem containsA_v {L : List Attr} : ACalls Tryd.prog 30 [.fro (L.map Attr.v), .fn (.func 27) [] []] (.bool (!L.all okA)) := by
  have c1 := indexA_v (L := L)
  have h := firstI_ge (p := fun a => !okA a) (l := L)
  have e : (!L.all okA) = L.any fun a => !okA a := by rw [List.not_all_eq_any_not]
  rw [e]
  generalize firstI (fun a => !okA a) L = n at *
  generalize (L.any fun a => !okA a) = b at *
  cases b with
  | true =>
    have := h.2 rfl
    refine fun2 tb_ok Tryd.func30 rfl Tryd.ntmps30 Tryd.results30 rfl fun N => ?_
    repeat' (first | refine zt ?_ | (refine isR ?_; first | refine zo ?_ | refine zk c1 ?_ | refine zc4 ?_ | (refine zs4 ?_ ?_ <;> intro hc)) | refine awp_split rfl (fun hb => ?_) (fun hb => ?_) | refine zr ?_ | exact x_le)
    rfl
  | false =>
    have : ¬ (0 ≤ n) := fun g => by cases h.1 g
    refine fun2 tb_ok Tryd.func30 rfl Tryd.ntmps30 Tryd.results30 rfl fun N => ?_
    repeat' (first | refine zt ?_ | (refine isR ?_; first | refine zo ?_ | refine zk c1 ?_ | refine zc4 ?_ | (refine zs4 ?_ ?_ <;> intro hc)) | refine awp_split rfl (fun hb => ?_) (fun hb => ?_) | refine zr ?_ | exact x_le)
    rfl
set_option maxRecDepth 100000 in
set_option maxHeartbeats 4000000 in
theorem check_v {r : Raw} : ACalls Tryd.prog 13 [r.v] (.int .i64 (checkF r)) := by
  have c1 := named_v (s := r.name)
  have c2 := plain_v (s := r.value)
  have c3 := containsA_v (L := r.attrs)
  unfold checkF
  obtain ⟨n, v, L⟩ := r
  dsimp only at *
  have hx : ((L.map Attr.v).length : Int) = (L.length : Int) := by simp
  show ACalls _ _ [.agg [strT n, strT v, .fro (L.map Attr.v)]] _
  generalize namedF n = x at *
  generalize plainF v = y at *
  generalize L.all okA = z at *
  cases x
  · skip
    refine fun1 tb_ok Tryd.func13 rfl Tryd.ntmps13 Tryd.results13 rfl fun N => ?_
    repeat' (first | refine zt ?_ | (refine isR ?_; first | refine zo ?_ | refine zk c1 ?_ | refine zL ?_ | refine zc3 ?_ | (refine zs3 ?_ ?_ <;> intro hc)) | refine awp_split rfl (fun hb => ?_) (fun hb => ?_) | refine zr ?_ | exact x_le)
    rfl
  · cases y
    · skip
      refine fun1 tb_ok Tryd.func13 rfl Tryd.ntmps13 Tryd.results13 rfl fun N => ?_
      repeat' (first | refine zt ?_ | (refine isR ?_; first | refine zo ?_ | refine zk c1 ?_ | refine zk c2 ?_ | refine zL ?_ | refine zc3 ?_ | (refine zs3 ?_ ?_ <;> intro hc)) | refine awp_split rfl (fun hb => ?_) (fun hb => ?_) | refine zr ?_ | exact x_le)
      rfl
    · cases z
      · skip
        refine fun1 tb_ok Tryd.func13 rfl Tryd.ntmps13 Tryd.results13 rfl fun N => ?_
        repeat' (first | refine zt ?_ | (refine isR ?_; first | refine zo ?_ | refine zk c1 ?_ | refine zk c2 ?_ | refine zk c3 ?_ | refine zL ?_ | refine zc3 ?_ | (refine zs3 ?_ ?_ <;> intro hc)) | refine awp_split rfl (fun hb => ?_) (fun hb => ?_) | refine zr ?_ | exact x_le)
        rfl
      · by_cases h : 12 < L.length
        · rw [if_pos h]
          refine fun1 tb_ok Tryd.func13 rfl Tryd.ntmps13 Tryd.results13 rfl fun N => ?_
          repeat' (first | refine zt ?_ | (refine isR ?_; first | refine zo ?_ | refine zk c1 ?_ | refine zk c2 ?_ | refine zk c3 ?_ | refine zL ?_ | refine zc3 ?_ | (refine zs3 ?_ ?_ <;> intro hc)) | refine awp_split rfl (fun hb => ?_) (fun hb => ?_) | refine zr ?_ | exact x_le)
          rfl
        · rw [if_neg h]
          refine fun1 tb_ok Tryd.func13 rfl Tryd.ntmps13 Tryd.results13 rfl fun N => ?_
          repeat' (first | refine zt ?_ | (refine isR ?_; first | refine zo ?_ | refine zk c1 ?_ | refine zk c2 ?_ | refine zk c3 ?_ | refine zL ?_ | refine zc3 ?_ | (refine zs3 ?_ ?_ <;> intro hc)) | refine awp_split rfl (fun hb => ?_) (fun hb => ?_) | refine zr ?_ | exact x_le)
          rfl
theorem tf {b : Bool} {n : Int} (h : n < 0 ↔ b = false) : (b = true ∧ 0 ≤ n) ∨ (b = false ∧ n < 0) := by
  cases b with
  | false => exact .inr ⟨rfl, h.2 rfl⟩
  | true => exact .inl ⟨rfl, by
      by_cases g : n < 0
      · cases h.1 g
      · omega⟩
set_option maxRecDepth 100000 in
set_option maxHeartbeats 4000000 in
theorem rawCheck_v {r : Raw} : ACalls Tryd.prog 14 [r.v] (.int .i64 (checkF r)) := by
  have c1 := plainText_v (s := r.name)
  have c2 := placeOf_v (c := 61) (l := r.name)
  have c3 := plainText_v (s := r.value)
  have hp := pos_none (c := 61) (l := r.name)
  unfold checkF namedF
  obtain ⟨n, v, L⟩ := r
  dsimp only at *
  have hx : ((L.map Attr.v).length : Int) = (L.length : Int) := by simp
  show ACalls _ _ [.agg [strT n, strT v, .fro (L.map Attr.v)]] _
  generalize plainF n = x at *
  generalize plainF v = y at *
  generalize posB 61 n = q at *
  generalize n.contains 61 = z at *
  by_cases h0 : n = []
  · rw [decide_eq_true h0]
    refine fun1 tb_ok Tryd.func14 rfl Tryd.ntmps14 Tryd.results14 rfl fun N => ?_
    repeat' (first | refine zt ?_ | (refine isR ?_; first | refine zo ?_ | refine zA ?_ | refine zL ?_ | refine zc1 ?_ | refine zc3 ?_ | refine zc4 ?_ | refine zc5 ?_ | refine zc6 ?_ | refine zI ?_ | (refine zs1 ?_ ?_ <;> intro hc) | (refine zs3 ?_ ?_ <;> intro hc) | (refine zs4 ?_ ?_ <;> intro hc) | (refine zs5 ?_ ?_ <;> intro hc) | (refine zs6 ?_ ?_ <;> intro hc)) | refine awp_split rfl (fun hb => ?_) (fun hb => ?_) | refine zr ?_ | exact x_le)
    rfl
  rw [decide_eq_false h0]
  cases x
  · skip
    refine fun1 tb_ok Tryd.func14 rfl Tryd.ntmps14 Tryd.results14 rfl fun N => ?_
    repeat' (first | refine zt ?_ | (refine isR ?_; first | refine zo ?_ | refine zk c1 ?_ | refine zA ?_ | refine zL ?_ | refine zc1 ?_ | refine zc3 ?_ | refine zc4 ?_ | refine zc5 ?_ | refine zc6 ?_ | refine zI ?_ | (refine zs1 ?_ ?_ <;> intro hc) | (refine zs3 ?_ ?_ <;> intro hc) | (refine zs4 ?_ ?_ <;> intro hc) | (refine zs5 ?_ ?_ <;> intro hc) | (refine zs6 ?_ ?_ <;> intro hc)) | refine awp_split rfl (fun hb => ?_) (fun hb => ?_) | refine zr ?_ | exact x_le)
    rfl
  rcases tf hp with ⟨rfl, hq⟩ | ⟨rfl, hq⟩
  · skip
    refine fun1 tb_ok Tryd.func14 rfl Tryd.ntmps14 Tryd.results14 rfl fun N => ?_
    repeat' (first | refine zt ?_ | (refine isR ?_; first | refine zo ?_ | refine zk c1 ?_ | refine zk c2 ?_ | refine zA ?_ | refine zL ?_ | refine zc1 ?_ | refine zc3 ?_ | refine zc4 ?_ | refine zc5 ?_ | refine zc6 ?_ | refine zI ?_ | (refine zs1 ?_ ?_ <;> intro hc) | (refine zs3 ?_ ?_ <;> intro hc) | (refine zs4 ?_ ?_ <;> intro hc) | (refine zs5 ?_ ?_ <;> intro hc) | (refine zs6 ?_ ?_ <;> intro hc)) | refine awp_split rfl (fun hb => ?_) (fun hb => ?_) | refine zr ?_ | exact x_le)
    rfl
  cases y
  · skip
    refine fun1 tb_ok Tryd.func14 rfl Tryd.ntmps14 Tryd.results14 rfl fun N => ?_
    repeat' (first | refine zt ?_ | (refine isR ?_; first | refine zo ?_ | refine zk c1 ?_ | refine zk c2 ?_ | refine zk c3 ?_ | refine zA ?_ | refine zL ?_ | refine zc1 ?_ | refine zc3 ?_ | refine zc4 ?_ | refine zc5 ?_ | refine zc6 ?_ | refine zI ?_ | (refine zs1 ?_ ?_ <;> intro hc) | (refine zs3 ?_ ?_ <;> intro hc) | (refine zs4 ?_ ?_ <;> intro hc) | (refine zs5 ?_ ?_ <;> intro hc) | (refine zs6 ?_ ?_ <;> intro hc)) | refine awp_split rfl (fun hb => ?_) (fun hb => ?_) | refine zr ?_ | exact x_le)
    rfl
  refine ACalls.lim fun hl => ?_
  have hlim : L.length ≤ 140737488355328 := by
    have h := hl.1
    simp only [V.Lim, V.LimL] at h
    simpa using h.2.2.1.1
  refine fun1 tb_ok Tryd.func14 rfl Tryd.ntmps14 Tryd.results14 rfl fun N => ?_
  repeat' (first | refine zt ?_ | (refine isR ?_; first | refine zo ?_ | refine zk c1 ?_ | refine zk c2 ?_ | refine zk c3 ?_ | refine zA ?_ | refine zL ?_ | refine zc1 ?_ | refine zc3 ?_ | refine zc4 ?_ | refine zc5 ?_ | refine zc6 ?_ | refine zI ?_ | (refine zs1 ?_ ?_ <;> intro hc) | (refine zs3 ?_ ?_ <;> intro hc) | (refine zs4 ?_ ?_ <;> intro hc) | (refine zs5 ?_ ?_ <;> intro hc) | (refine zs6 ?_ ?_ <;> intro hc)) | refine awp_split rfl (fun hb => ?_) (fun hb => ?_) | refine zr ?_ | exact x_le)
  refine awp_for (fun k => ⟨[(1, .fp [strT n, strT v, .fro (L.map Attr.v)] 0), (3, .int .i64 (k : Int))], [], 0, 71⟩) (fun k => k ≤ L.length ∧ Upto okA L k) L.length 0 (by exact x_le) ⟨Nat.zero_le _, upto0⟩ ?_
  intro k ⟨hk, hq2⟩
  by_cases hk2 : k < L.length
  · have e1 : (L.map Attr.v)[k]? = some (L[k]).v := by simp [hk2]
    have e2 : L[k]? = some L[k] := by simp [hk2]
    generalize L[k] = a at e1 e2
    have hno := all_no (p := okA) e2
    have hon := hq2.on e2
    have d1 := plainText_v (s := a.name)
    have d2 := placeOf_v (c := 61) (l := a.name)
    have d3 := foldOf_v (l := a.name)
    have d4 := plainText_v (s := a.value)
    have dp := pos_none (c := 61) (l := a.name)
    obtain ⟨an, av⟩ := a
    rw [show okA ⟨an, av⟩ = ((!decide (an = []) && (plainF an && !an.contains 61)) && (decide (fold an = an) && plainF av)) from rfl] at hno hon
    dsimp only at d1 d2 d3 d4 dp e1 e2
    generalize plainF an = x at *
    generalize plainF av = y at *
    generalize posB 61 an = q2 at *
    generalize an.contains 61 = z at *
    generalize fold an = m at *
    by_cases g0 : an = []
    · rw [decide_eq_true g0] at hno
      rw [hno rfl]
      repeat' (first | refine zt ?_ | (refine isR ?_; first | refine zo ?_ | refine zA ?_ | refine zL ?_ | refine zc1 ?_ | refine zc3 ?_ | refine zc4 ?_ | refine zc5 ?_ | refine zc6 ?_ | refine zI ?_ | (refine zs1 ?_ ?_ <;> intro hc) | (refine zs3 ?_ ?_ <;> intro hc) | (refine zs4 ?_ ?_ <;> intro hc) | (refine zs5 ?_ ?_ <;> intro hc) | (refine zs6 ?_ ?_ <;> intro hc)) | refine awp_split rfl (fun hb => ?_) (fun hb => ?_) | refine zr ?_ | exact x_le)
      rfl
    rw [decide_eq_false g0] at hno hon
    cases x
    · rw [hno rfl]
      repeat' (first | refine zt ?_ | (refine isR ?_; first | refine zo ?_ | refine zk d1 ?_ | refine zA ?_ | refine zL ?_ | refine zc1 ?_ | refine zc3 ?_ | refine zc4 ?_ | refine zc5 ?_ | refine zc6 ?_ | refine zI ?_ | (refine zs1 ?_ ?_ <;> intro hc) | (refine zs3 ?_ ?_ <;> intro hc) | (refine zs4 ?_ ?_ <;> intro hc) | (refine zs5 ?_ ?_ <;> intro hc) | (refine zs6 ?_ ?_ <;> intro hc)) | refine awp_split rfl (fun hb => ?_) (fun hb => ?_) | refine zr ?_ | exact x_le)
      rfl
    rcases tf dp with ⟨rfl, dq⟩ | ⟨rfl, dq⟩
    · rw [hno rfl]
      repeat' (first | refine zt ?_ | (refine isR ?_; first | refine zo ?_ | refine zk d1 ?_ | refine zk d2 ?_ | refine zA ?_ | refine zL ?_ | refine zc1 ?_ | refine zc3 ?_ | refine zc4 ?_ | refine zc5 ?_ | refine zc6 ?_ | refine zI ?_ | (refine zs1 ?_ ?_ <;> intro hc) | (refine zs3 ?_ ?_ <;> intro hc) | (refine zs4 ?_ ?_ <;> intro hc) | (refine zs5 ?_ ?_ <;> intro hc) | (refine zs6 ?_ ?_ <;> intro hc)) | refine awp_split rfl (fun hb => ?_) (fun hb => ?_) | refine zr ?_ | exact x_le)
      rfl
    by_cases g1 : m = an
    · rw [decide_eq_true g1] at hno hon
      cases y
      · rw [hno rfl]
        repeat' (first | refine zt ?_ | (refine isR ?_; first | refine zo ?_ | refine zk d1 ?_ | refine zk d2 ?_ | refine zk d3 ?_ | refine zk d4 ?_ | refine zA ?_ | refine zL ?_ | refine zc1 ?_ | refine zc3 ?_ | refine zc4 ?_ | refine zc5 ?_ | refine zc6 ?_ | refine zI ?_ | (refine zs1 ?_ ?_ <;> intro hc) | (refine zs3 ?_ ?_ <;> intro hc) | (refine zs4 ?_ ?_ <;> intro hc) | (refine zs5 ?_ ?_ <;> intro hc) | (refine zs6 ?_ ?_ <;> intro hc)) | refine awp_split rfl (fun hb => ?_) (fun hb => ?_) | refine zr ?_ | exact x_le)
        rfl
      · skip
        repeat' (first | refine zt ?_ | (refine isR ?_; first | refine zo ?_ | refine zk d1 ?_ | refine zk d2 ?_ | refine zk d3 ?_ | refine zk d4 ?_ | refine zA ?_ | refine zL ?_ | refine zc1 ?_ | refine zc3 ?_ | refine zc4 ?_ | refine zc5 ?_ | refine zc6 ?_ | refine zI ?_ | (refine zs1 ?_ ?_ <;> intro hc) | (refine zs3 ?_ ?_ <;> intro hc) | (refine zs4 ?_ ?_ <;> intro hc) | (refine zs5 ?_ ?_ <;> intro hc) | (refine zs6 ?_ ?_ <;> intro hc)) | refine awp_split rfl (fun hb => ?_) (fun hb => ?_) | refine zr ?_ | exact x_le)
        refine ⟨⟨by omega, hon rfl⟩, by omega, ?_⟩
        exact (by exact x_le)
    · rw [decide_eq_false g1] at hno
      rw [hno rfl]
      repeat' (first | refine zt ?_ | (refine isR ?_; first | refine zo ?_ | refine zk d1 ?_ | refine zk d2 ?_ | refine zk d3 ?_ | refine zA ?_ | refine zL ?_ | refine zc1 ?_ | refine zc3 ?_ | refine zc4 ?_ | refine zc5 ?_ | refine zc6 ?_ | refine zI ?_ | (refine zs1 ?_ ?_ <;> intro hc) | (refine zs3 ?_ ?_ <;> intro hc) | (refine zs4 ?_ ?_ <;> intro hc) | (refine zs5 ?_ ?_ <;> intro hc) | (refine zs6 ?_ ?_ <;> intro hc)) | refine awp_split rfl (fun hb => ?_) (fun hb => ?_) | refine zr ?_ | exact x_le)
      rfl
  · rw [hq2.all hk2]
    by_cases h : 12 < L.length
    · rw [if_pos h]
      repeat' (first | refine zt ?_ | (refine isR ?_; first | refine zo ?_ | refine zA ?_ | refine zL ?_ | refine zc1 ?_ | refine zc3 ?_ | refine zc4 ?_ | refine zc5 ?_ | refine zc6 ?_ | refine zI ?_ | (refine zs1 ?_ ?_ <;> intro hc) | (refine zs3 ?_ ?_ <;> intro hc) | (refine zs4 ?_ ?_ <;> intro hc) | (refine zs5 ?_ ?_ <;> intro hc) | (refine zs6 ?_ ?_ <;> intro hc)) | refine awp_split rfl (fun hb => ?_) (fun hb => ?_) | refine zr ?_ | exact x_le)
      rfl
    · rw [if_neg h]
      repeat' (first | refine zt ?_ | (refine isR ?_; first | refine zo ?_ | refine zA ?_ | refine zL ?_ | refine zc1 ?_ | refine zc3 ?_ | refine zc4 ?_ | refine zc5 ?_ | refine zc6 ?_ | refine zI ?_ | (refine zs1 ?_ ?_ <;> intro hc) | (refine zs3 ?_ ?_ <;> intro hc) | (refine zs4 ?_ ?_ <;> intro hc) | (refine zs5 ?_ ?_ <;> intro hc) | (refine zs6 ?_ ?_ <;> intro hc)) | refine awp_split rfl (fun hb => ?_) (fun hb => ?_) | refine zr ?_ | exact x_le)
      rfl
set_option maxRecDepth 100000 in
set_option maxHeartbeats 4000000 in
theorem sameRaw_v {a b : Raw} : ACalls Tryd.prog 12 [a.v, b.v] (.bool (decide (a = b))) := by
  obtain ⟨n, v, L⟩ := a
  obtain ⟨m, u, K⟩ := b
  have hx : ((L.map Attr.v).length : Int) = (L.length : Int) := by simp
  have hy : ((K.map Attr.v).length : Int) = (K.length : Int) := by simp
  show ACalls _ _ [.agg [strT n, strT v, .fro (L.map Attr.v)], .agg [strT m, strT u, .fro (K.map Attr.v)]] _
  by_cases h1 : n = m
  · by_cases h2 : v = u
    · by_cases h3 : L.length = K.length
      · refine ACalls.lim fun hl => ?_
        have hlim : L.length ≤ 140737488355328 := by
          have h := hl.1
          simp only [V.Lim, V.LimL] at h
          simpa using h.2.2.1.1
        refine fun2 tb_ok Tryd.func12 rfl Tryd.ntmps12 Tryd.results12 rfl fun N => ?_
        repeat' (first | refine zt ?_ | (refine isR ?_; first | refine zo ?_ | refine zA ?_ | refine zL ?_ | refine zc1 ?_ | refine zc6 ?_ | refine zI ?_ | (refine zs1 ?_ ?_ <;> intro hc) | (refine zs6 ?_ ?_ <;> intro hc)) | refine awp_split rfl (fun hb => ?_) (fun hb => ?_) | refine zr ?_ | exact x_le)
        refine awp_for (fun k => ⟨[(2, .fp [strT n, strT v, .fro (L.map Attr.v)] 0), (3, .fp [strT m, strT u, .fro (K.map Attr.v)] 0), (5, .int .i64 (k : Int))], [], 0, 45⟩) (fun k => k ≤ L.length ∧ ∀ j, j < k → L[j]? = K[j]?) L.length 0 (by exact x_le) ⟨Nat.zero_le _, fun j h => absurd h (Nat.not_lt_zero _)⟩ ?_
        intro k ⟨hk, hq⟩
        by_cases hk2 : k < L.length
        · have e1 : (L.map Attr.v)[k]? = some (L[k]).v := by simp [hk2]
          have e2 : L[k]? = some L[k] := by simp [hk2]
          have hk3 : k < K.length := by omega
          have e3 : (K.map Attr.v)[k]? = some (K[k]).v := by simp [hk3]
          have e4 : K[k]? = some K[k] := by simp [hk3]
          generalize L[k] = p at e1 e2
          generalize K[k] = q at e3 e4
          have he : (!eqK ekA p.v q.v) = !decide (p = q) := by rw [eq_attr]
          by_cases hpq : p = q
          · rw [decide_eq_true hpq] at he
            repeat' (first | refine zt ?_ | (refine isR ?_; first | refine zo ?_ | refine zA ?_ | refine zL ?_ | refine zc1 ?_ | refine zc6 ?_ | refine zI ?_ | (refine zs1 ?_ ?_ <;> intro hc) | (refine zs6 ?_ ?_ <;> intro hc)) | refine awp_split rfl (fun hb => ?_) (fun hb => ?_) | refine zr ?_ | exact x_le)
            refine ⟨⟨by omega, fun j hj => ?_⟩, by omega, (by exact x_le)⟩
            rcases Nat.lt_succ_iff_lt_or_eq.1 hj with h | rfl
            · exact hq j h
            · rw [e2, e4, hpq]
          · rw [decide_eq_false hpq] at he
            repeat' (first | refine zt ?_ | (refine isR ?_; first | refine zo ?_ | refine zA ?_ | refine zL ?_ | refine zc1 ?_ | refine zc6 ?_ | refine zI ?_ | (refine zs1 ?_ ?_ <;> intro hc) | (refine zs6 ?_ ?_ <;> intro hc)) | refine awp_split rfl (fun hb => ?_) (fun hb => ?_) | refine zr ?_ | exact x_le)
            rw [decide_eq_false]
            · rfl
            intro e
            cases e
            rw [e2] at e4; cases e4; exact hpq rfl
        · have : L = K := List.ext_getElem? fun j => by
            by_cases hj : j < L.length
            · exact hq j (by omega)
            · rw [List.getElem?_eq_none (by omega), List.getElem?_eq_none (by omega)]
          repeat' (first | refine zt ?_ | (refine isR ?_; first | refine zo ?_ | refine zA ?_ | refine zL ?_ | refine zc1 ?_ | refine zc6 ?_ | refine zI ?_ | (refine zs1 ?_ ?_ <;> intro hc) | (refine zs6 ?_ ?_ <;> intro hc)) | refine awp_split rfl (fun hb => ?_) (fun hb => ?_) | refine zr ?_ | exact x_le)
          rw [decide_eq_true (by subst h1 h2 this; rfl)]; rfl
      · rw [decide_eq_false (by intro e; cases e; exact h3 rfl)]
        refine fun2 tb_ok Tryd.func12 rfl Tryd.ntmps12 Tryd.results12 rfl fun N => ?_
        repeat' (first | refine zt ?_ | (refine isR ?_; first | refine zo ?_ | refine zA ?_ | refine zL ?_ | refine zc1 ?_ | refine zc6 ?_ | refine zI ?_ | (refine zs1 ?_ ?_ <;> intro hc) | (refine zs6 ?_ ?_ <;> intro hc)) | refine awp_split rfl (fun hb => ?_) (fun hb => ?_) | refine zr ?_ | exact x_le)
        rfl
    · rw [decide_eq_false (by intro e; cases e; exact h2 rfl)]
      refine fun2 tb_ok Tryd.func12 rfl Tryd.ntmps12 Tryd.results12 rfl fun N => ?_
      repeat' (first | refine zt ?_ | (refine isR ?_; first | refine zo ?_ | refine zA ?_ | refine zL ?_ | refine zc1 ?_ | refine zc6 ?_ | refine zI ?_ | (refine zs1 ?_ ?_ <;> intro hc) | (refine zs6 ?_ ?_ <;> intro hc)) | refine awp_split rfl (fun hb => ?_) (fun hb => ?_) | refine zr ?_ | exact x_le)
      rfl
  · rw [decide_eq_false (by intro e; cases e; exact h1 rfl)]
    refine fun2 tb_ok Tryd.func12 rfl Tryd.ntmps12 Tryd.results12 rfl fun N => ?_
    repeat' (first | refine zt ?_ | (refine isR ?_; first | refine zo ?_ | refine zA ?_ | refine zL ?_ | refine zc1 ?_ | refine zc6 ?_ | refine zI ?_ | (refine zs1 ?_ ?_ <;> intro hc) | (refine zs6 ?_ ?_ <;> intro hc)) | refine awp_split rfl (fun hb => ?_) (fun hb => ?_) | refine zr ?_ | exact x_le)
    rfl
end Go.Proofs.YtbacakgjhohedaaDoor.HeadR
