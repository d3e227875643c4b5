/- Texts of the proof, joined: CookR, CookS, CookT. -/
import Derived.Test.YtkgdkpiacencjaaGreatDoorG9
import Derived.Test.YtkgdkpiacencjaaGreatDoorG19
import Derived.Test.YtkgdkpiacencjaaGreatDoorG22
section
namespace Go.Proofs.YtkgdkpiacencjaaGreatDoor.CookR
open Go.RowKit Mem Abs TreeW WordP WordS HostP HostO HostA HostB HostC HostD PathT Globs StampB StampG ClockP ClockW ClockO ClockV CookP CookW CookV

set_option maxRecDepth 100000 in
set_option maxHeartbeats 4000000 in
theorem readyOf_v {f : From} {now : Int} : ACalls Tryz.prog 15 [f.v, .int .i64 now] (.int .i64 (readyF f now)) := ACalls.lim fun hl => by
  have c1 := SufW.isHost_v (l := f.host)
  have c2 := HeadW.letOf_v (s := f.path)
  have c3 := placeOf_v (c := 59) (l := f.path)
  have hp := pos_none (c := 59) (l := f.path)
  have c4 := noMoment_v (n := now)
  unfold readyF
  obtain ⟨f1, f2, f3, f4, f5⟩ := f
  dsimp only at *
  generalize SufP.hostOk f1 = x1 at *
  generalize HeadP.letF f2 = x3 at *
  generalize posB 59 f2 = n at *
  generalize f2.contains 59 = x4 at *
  generalize isB now = x5 at *
  show ACalls _ _ [.agg [strT f1, strT f2, .bool f3, .bool f4, .bool f5], .int .i64 now] _
  have z : ∀ {p : Prop} [Decidable p] {a b : Int}, ¬ p → (if p then a else b) = b := fun h => if_neg h
  cases x1
  · rw [z (by simp)]
    refine fun2 tb_ok Tryz.func15 rfl Tryz.ntmps15 Tryz.results15 rfl fun N => ?_
    repeat' (first | refine zt ?_ | (refine isR ?_; first | refine zo ?_ | refine zk c1 ?_ | refine zL ?_ | refine zc3 ?_ | refine zc4 ?_ | refine zc5 ?_ | refine zc6 ?_ | refine zI ?_ | (refine zs3 ?_ ?_ <;> intro hc) | (refine zs4 ?_ ?_ <;> intro hc) | (refine zs5 ?_ ?_ <;> intro hc) | (refine zs6 ?_ ?_ <;> intro hc)) | refine awp_split rfl (fun hb => ?_) (fun hb => ?_) | refine zr ?_ | exact x_le)
    rfl
  match f2 with
  | [] =>
    have h0 : ([] : List UInt8).length = 0 := rfl
    rw [z (by simp [pre])]
    refine fun2 tb_ok Tryz.func15 rfl Tryz.ntmps15 Tryz.results15 rfl fun N => ?_
    repeat' (first | refine zt ?_ | (refine isR ?_; first | refine zo ?_ | refine zk c1 ?_ | refine zL ?_ | refine zc3 ?_ | refine zc4 ?_ | refine zc5 ?_ | refine zc6 ?_ | refine zI ?_ | (refine zs3 ?_ ?_ <;> intro hc) | (refine zs4 ?_ ?_ <;> intro hc) | (refine zs5 ?_ ?_ <;> intro hc) | (refine zs6 ?_ ?_ <;> intro hc)) | refine awp_split rfl (fun hb => ?_) (fun hb => ?_) | refine zr ?_ | exact x_le)
    rfl
  | b :: t =>
    have e0 : (b :: t)[(0 : Int).toNat]? = some b := rfl
    have hb := b.toNat_lt
    have hlt : 0 < (b :: t).length := by simp
    by_cases hl4 : (b :: t).length ≤ 400
    · have hpre : pre (b :: t) [47] = decide (b = 47) := by unfold pre; simp
      have hbe : b = 47 ↔ (b.toNat : Int) = 47 := byte_eq
      by_cases h47 : b = 47
      · have h47' := hbe.1 h47
        rw [hpre, decide_eq_true h47]
        generalize b :: t = w at *
        cases x3
        · rw [z (by simp)]
          refine fun2 tb_ok Tryz.func15 rfl Tryz.ntmps15 Tryz.results15 rfl fun N => ?_
          repeat' (first | refine zt ?_ | (refine isR ?_; first | refine zo ?_ | refine zk c1 ?_ | refine zk c2 ?_ | refine zL ?_ | refine zc3 ?_ | refine zc4 ?_ | refine zc5 ?_ | refine zc6 ?_ | refine zI ?_ | (refine zs3 ?_ ?_ <;> intro hc) | (refine zs4 ?_ ?_ <;> intro hc) | (refine zs5 ?_ ?_ <;> intro hc) | (refine zs6 ?_ ?_ <;> intro hc)) | refine awp_split rfl (fun hb => ?_) (fun hb => ?_) | refine zr ?_ | exact x_le)
          rfl
        cases x4
        · have hn := hp.2 rfl
          rw [if_pos ⟨rfl, rfl, rfl, rfl, hl4⟩]
          cases x5
          · skip
            refine fun2 tb_ok Tryz.func15 rfl Tryz.ntmps15 Tryz.results15 rfl fun N => ?_
            repeat' (first | refine zt ?_ | (refine isR ?_; first | refine zo ?_ | refine zk c1 ?_ | refine zk c2 ?_ | refine zk c3 ?_ | refine zk c4 ?_ | refine zL ?_ | refine zc3 ?_ | refine zc4 ?_ | refine zc5 ?_ | refine zc6 ?_ | refine zI ?_ | (refine zs3 ?_ ?_ <;> intro hc) | (refine zs4 ?_ ?_ <;> intro hc) | (refine zs5 ?_ ?_ <;> intro hc) | (refine zs6 ?_ ?_ <;> intro hc)) | refine awp_split rfl (fun hb => ?_) (fun hb => ?_) | refine zr ?_ | exact x_le)
            rfl
          · skip
            refine fun2 tb_ok Tryz.func15 rfl Tryz.ntmps15 Tryz.results15 rfl fun N => ?_
            repeat' (first | refine zt ?_ | (refine isR ?_; first | refine zo ?_ | refine zk c1 ?_ | refine zk c2 ?_ | refine zk c3 ?_ | refine zk c4 ?_ | refine zL ?_ | refine zc3 ?_ | refine zc4 ?_ | refine zc5 ?_ | refine zc6 ?_ | refine zI ?_ | (refine zs3 ?_ ?_ <;> intro hc) | (refine zs4 ?_ ?_ <;> intro hc) | (refine zs5 ?_ ?_ <;> intro hc) | (refine zs6 ?_ ?_ <;> intro hc)) | refine awp_split rfl (fun hb => ?_) (fun hb => ?_) | refine zr ?_ | exact x_le)
            rfl
        · have hn : ¬ n < 0 := fun h => by cases hp.1 h
          rw [z (by simp)]
          refine fun2 tb_ok Tryz.func15 rfl Tryz.ntmps15 Tryz.results15 rfl fun N => ?_
          repeat' (first | refine zt ?_ | (refine isR ?_; first | refine zo ?_ | refine zk c1 ?_ | refine zk c2 ?_ | refine zk c3 ?_ | refine zL ?_ | refine zc3 ?_ | refine zc4 ?_ | refine zc5 ?_ | refine zc6 ?_ | refine zI ?_ | (refine zs3 ?_ ?_ <;> intro hc) | (refine zs4 ?_ ?_ <;> intro hc) | (refine zs5 ?_ ?_ <;> intro hc) | (refine zs6 ?_ ?_ <;> intro hc)) | refine awp_split rfl (fun hb => ?_) (fun hb => ?_) | refine zr ?_ | exact x_le)
          rfl
      · have h47' : ¬ (b.toNat : Int) = 47 := fun h => h47 (hbe.2 h)
        rw [hpre, decide_eq_false h47, z (by simp)]
        generalize b :: t = w at *
        refine fun2 tb_ok Tryz.func15 rfl Tryz.ntmps15 Tryz.results15 rfl fun N => ?_
        repeat' (first | refine zt ?_ | (refine isR ?_; first | refine zo ?_ | refine zk c1 ?_ | refine zL ?_ | refine zc3 ?_ | refine zc4 ?_ | refine zc5 ?_ | refine zc6 ?_ | refine zI ?_ | (refine zs3 ?_ ?_ <;> intro hc) | (refine zs4 ?_ ?_ <;> intro hc) | (refine zs5 ?_ ?_ <;> intro hc) | (refine zs6 ?_ ?_ <;> intro hc)) | refine awp_split rfl (fun hb => ?_) (fun hb => ?_) | refine zr ?_ | exact x_le)
        rfl
    · rw [z (fun h => hl4 h.2.2.2.2)]
      generalize b :: t = w at *
      refine fun2 tb_ok Tryz.func15 rfl Tryz.ntmps15 Tryz.results15 rfl fun N => ?_
      repeat' (first | refine zt ?_ | (refine isR ?_; first | refine zo ?_ | refine zk c1 ?_ | refine zL ?_ | refine zc3 ?_ | refine zc4 ?_ | refine zc5 ?_ | refine zc6 ?_ | refine zI ?_ | (refine zs3 ?_ ?_ <;> intro hc) | (refine zs4 ?_ ?_ <;> intro hc) | (refine zs5 ?_ ?_ <;> intro hc) | (refine zs6 ?_ ?_ <;> intro hc)) | refine awp_split rfl (fun hb => ?_) (fun hb => ?_) | refine zr ?_ | exact x_le)
      rfl
theorem zero_cons {c d : UInt8} {r : List UInt8} : zeroF (c :: d :: r) = if c = 48 then zeroF (d :: r) else c :: d :: r := by rw [zeroF]
set_option maxRecDepth 100000 in
set_option maxHeartbeats 4000000 in
theorem ageOf_v {s : List UInt8} : ACalls Tryz.prog 12 [strT s] (.tup [.int .i64 (ageF s).1, .bool (ageF s).2]) := ACalls.lim fun hl => by
  obtain ⟨hl, _⟩ := TreeW.str_lim hl
  have hle : (cutP s [45]).1.length ≤ s.length := by unfold cutP; split <;> simp
  generalize hR : ageF s = R
  unfold ageF at hR
  generalize hp : cutP s [45] = p at *
  refine fun1 tb_ok Tryz.func12 rfl Tryz.ntmps12 Tryz.results12 rfl fun N => ?_
  apply awp_share (s1 := ⟨[(0, strT p.1), (2, .int .i64 0), (3, .bool false), (4, .int .i64 (if p.2 = true then -1 else 1))], [], 0, 61⟩) True
  case main =>
    intro H
    have H := H trivial
    cases s with
    | nil =>
      have h0 : ([] : List UInt8).length = 0 := rfl
      obtain rfl : p = ([], false) := hp.symm
      repeat' (first | ((with_reducible refine awp_cutRH (id := 5) H ?_); exact x_le) | ((with_reducible refine awp_cutRS (id := 5) H ?_); exact x_le) | refine zt ?_ | (refine isR ?_; first | refine zo ?_ | refine zA ?_ | refine zL ?_ | refine zc1 ?_ | refine zc2 ?_ | refine zc3 ?_ | refine zc5 ?_ | refine zI ?_ | refine zS ?_ | refine zB ?_ | (refine zs1 ?_ ?_ <;> intro hc) | (refine zs2 ?_ ?_ <;> intro hc) | (refine zs3 ?_ ?_ <;> intro hc) | (refine zs5 ?_ ?_ <;> intro hc)) | refine awp_split rfl (fun hb => ?_) (fun hb => ?_) | refine zr ?_ | exact x_le)
    | cons b t =>
      have e0 : (b :: t)[(0 : Int).toNat]? = some b := rfl
      have hb := b.toNat_lt
      have hlt : 0 < (b :: t).length := by simp
      have hbe : b = 45 ↔ (b.toNat : Int) = 45 := byte_eq
      by_cases h45 : b = 45
      · have h45' := hbe.1 h45
        have e1 : cutP (b :: t) [45] = ((b :: t).drop (1 : Int).toNat, true) := by unfold cutP; rw [show pre (b :: t) [45] = true by unfold pre; simp [h45]]; rfl
        rw [e1] at hp
        obtain rfl := hp.symm
        clear e1
        generalize b :: t = w at *
        repeat' (first | ((with_reducible refine awp_cutRH (id := 5) H ?_); exact x_le) | ((with_reducible refine awp_cutRS (id := 5) H ?_); exact x_le) | refine zt ?_ | (refine isR ?_; first | refine zo ?_ | refine zA ?_ | refine zL ?_ | refine zc1 ?_ | refine zc2 ?_ | refine zc3 ?_ | refine zc5 ?_ | refine zI ?_ | refine zS ?_ | refine zB ?_ | (refine zs1 ?_ ?_ <;> intro hc) | (refine zs2 ?_ ?_ <;> intro hc) | (refine zs3 ?_ ?_ <;> intro hc) | (refine zs5 ?_ ?_ <;> intro hc)) | refine awp_split rfl (fun hb => ?_) (fun hb => ?_) | refine zr ?_ | exact x_le)
      · have h45' : ¬ (b.toNat : Int) = 45 := fun h => h45 (hbe.2 h)
        have e1 : cutP (b :: t) [45] = (b :: t, false) := by unfold cutP; rw [show pre (b :: t) [45] = false by unfold pre; simp [h45]]; rfl
        rw [e1] at hp
        obtain rfl := hp.symm
        clear e1
        generalize b :: t = w at *
        repeat' (first | ((with_reducible refine awp_cutRH (id := 5) H ?_); exact x_le) | ((with_reducible refine awp_cutRS (id := 5) H ?_); exact x_le) | refine zt ?_ | (refine isR ?_; first | refine zo ?_ | refine zA ?_ | refine zL ?_ | refine zc1 ?_ | refine zc2 ?_ | refine zc3 ?_ | refine zc5 ?_ | refine zI ?_ | refine zS ?_ | refine zB ?_ | (refine zs1 ?_ ?_ <;> intro hc) | (refine zs2 ?_ ?_ <;> intro hc) | (refine zs3 ?_ ?_ <;> intro hc) | (refine zs5 ?_ ?_ <;> intro hc)) | refine awp_split rfl (fun hb => ?_) (fun hb => ?_) | refine zr ?_ | exact x_le)
  case k =>
    intro _
    obtain ⟨t, minus⟩ := p
    dsimp only at *
    generalize hsg : (if minus = true then (-1 : Int) else 1) = sg
    by_cases h0 : t = []
    · rw [if_neg (fun h => h.2 h0)] at hR
      subst hR
      repeat' (first | refine zt ?_ | (refine isR ?_; first | refine zo ?_ | refine zA ?_ | refine zL ?_ | refine zc1 ?_ | refine zc2 ?_ | refine zc3 ?_ | refine zc5 ?_ | refine zI ?_ | refine zS ?_ | refine zB ?_ | (refine zs1 ?_ ?_ <;> intro hc) | (refine zs2 ?_ ?_ <;> intro hc) | (refine zs3 ?_ ?_ <;> intro hc) | (refine zs5 ?_ ?_ <;> intro hc)) | refine awp_split rfl (fun hb => ?_) (fun hb => ?_) | refine zr ?_ | exact x_le)
      rfl
    repeat' (first | refine zt ?_ | (refine isR ?_; first | refine zo ?_ | refine zA ?_ | refine zL ?_ | refine zc1 ?_ | refine zc2 ?_ | refine zc3 ?_ | refine zc5 ?_ | refine zI ?_ | refine zS ?_ | refine zB ?_ | (refine zs1 ?_ ?_ <;> intro hc) | (refine zs2 ?_ ?_ <;> intro hc) | (refine zs3 ?_ ?_ <;> intro hc) | (refine zs5 ?_ ?_ <;> intro hc)) | refine awp_split rfl (fun hb => ?_) (fun hb => ?_) | refine zr ?_ | exact x_le)
    refine awp_for (fun k => ⟨[(0, strT t), (4, .int .i64 sg), (5, .int .i64 (k : Int))], [], 0, 61⟩) (fun k => k ≤ t.length ∧ Upto digB t k) t.length 0 (by exact x_le) ⟨Nat.zero_le _, upto0⟩ ?_
    intro k ⟨hk, hq⟩
    by_cases hk2 : k < t.length
    · have e1 : t[k]? = some t[k] := by simp [hk2]
      generalize t[k] = c at e1
      have c1 := isDigit_v (c := c)
      cases hd : digB c with
      | false =>
        have hn : ¬ (t.all digB = true ∧ t ≠ []) := fun hh => by
          have := List.all_eq_true.1 hh.1 c (List.mem_of_getElem? e1)
          rw [hd] at this; cases this
        rw [hd] at c1
        rw [if_neg hn] at hR
        subst hR
        repeat' (first | refine zt ?_ | (refine isR ?_; first | refine zo ?_ | refine zk c1 ?_ | refine zA ?_ | refine zL ?_ | refine zc1 ?_ | refine zc2 ?_ | refine zc3 ?_ | refine zc5 ?_ | refine zI ?_ | refine zS ?_ | refine zB ?_ | (refine zs1 ?_ ?_ <;> intro hc) | (refine zs2 ?_ ?_ <;> intro hc) | (refine zs3 ?_ ?_ <;> intro hc) | (refine zs5 ?_ ?_ <;> intro hc)) | refine awp_split rfl (fun hb => ?_) (fun hb => ?_) | refine zr ?_ | exact x_le)
        rfl
      | true =>
        rw [hd] at c1
        repeat' (first | refine zt ?_ | (refine isR ?_; first | refine zo ?_ | refine zk c1 ?_ | refine zA ?_ | refine zL ?_ | refine zc1 ?_ | refine zc2 ?_ | refine zc3 ?_ | refine zc5 ?_ | refine zI ?_ | refine zS ?_ | refine zB ?_ | (refine zs1 ?_ ?_ <;> intro hc) | (refine zs2 ?_ ?_ <;> intro hc) | (refine zs3 ?_ ?_ <;> intro hc) | (refine zs5 ?_ ?_ <;> intro hc)) | refine awp_split rfl (fun hb => ?_) (fun hb => ?_) | refine zr ?_ | exact x_le)
        exact ⟨⟨by omega, hq.on e1 hd⟩, hk2, (by exact x_le)⟩
    · have hall : t.all digB = true := hq.all hk2
      rw [if_pos ⟨hall, h0⟩] at hR
      obtain ⟨z1, z2, z3, z4, z5⟩ := zero_is t
      have hs := zero_sat hall
      have hsl := sat_le t
      have hzd := z2 hall
      have hz0 := z3 h0
      have hzl : (zeroF t).length ≤ 140737488355328 * 140737488355328 := by omega
      apply awp_share (s1 := ⟨[(0, strT (zeroF t)), (4, .int .i64 sg)], [], 0, 61⟩) True
      case main =>
        intro H
        have H := H trivial
        repeat' (first | refine zt ?_ | (refine isR ?_; first | refine zo ?_ | refine zA ?_ | refine zL ?_ | refine zc1 ?_ | refine zc2 ?_ | refine zc3 ?_ | refine zc5 ?_ | refine zI ?_ | refine zS ?_ | refine zB ?_ | (refine zs1 ?_ ?_ <;> intro hc) | (refine zs2 ?_ ?_ <;> intro hc) | (refine zs3 ?_ ?_ <;> intro hc) | (refine zs5 ?_ ?_ <;> intro hc)) | refine awp_split rfl (fun hb => ?_) (fun hb => ?_) | refine zr ?_ | exact x_le)
        refine awp_while (α := List UInt8) (fun w => ⟨[(0, strT w), (4, .int .i64 sg)], [], 0, 61⟩) (fun w => zeroF w = zeroF t ∧ w.length ≤ t.length ∧ w ≠ []) (fun w => w.length) t (by exact x_le) ⟨rfl, Nat.le_refl _, h0⟩ ?_
        intro w ⟨hw, hwl, hw0⟩
        match w with
        | [] => exact absurd rfl hw0
        | [c] =>
          have h1 : ¬ 1 < [c].length := by simp
          rw [← hw] at H
          have H : AWp _ _ _ _ ⟨[(0, strT [c]), (4, .int .i64 sg)], [], 0, 61⟩ := H
          generalize [c] = u at *
          repeat' (first | ((with_reducible refine awp_cutRH (id := 14) H ?_); exact x_le) | ((with_reducible refine awp_cutRS (id := 14) H ?_); exact x_le) | refine zt ?_ | (refine isR ?_; first | refine zo ?_ | refine zA ?_ | refine zL ?_ | refine zc1 ?_ | refine zc2 ?_ | refine zc3 ?_ | refine zc5 ?_ | refine zI ?_ | refine zS ?_ | refine zB ?_ | (refine zs1 ?_ ?_ <;> intro hc) | (refine zs2 ?_ ?_ <;> intro hc) | (refine zs3 ?_ ?_ <;> intro hc) | (refine zs5 ?_ ?_ <;> intro hc)) | refine awp_split rfl (fun hb => ?_) (fun hb => ?_) | refine zr ?_ | exact x_le)
        | c :: d :: r =>
          have e0 : (c :: d :: r)[(0 : Int).toNat]? = some c := rfl
          have hb := c.toNat_lt
          have hlt : 1 < (c :: d :: r).length := by simp
          have hbe : c = 48 ↔ (c.toNat : Int) = 48 := byte_eq
          have e2 : (c :: d :: r).drop (1 : Int).toNat = d :: r := rfl
          have e3 : ((c :: d :: r).drop (1 : Int).toNat).length < (c :: d :: r).length := by simp
          rw [zero_cons] at hw
          by_cases h48 : c = 48
          · have h48' := hbe.1 h48
            rw [if_pos h48] at hw
            have hne : d :: r ≠ [] := by simp
            rw [← e2] at hw hne
            generalize c :: d :: r = u at *
            repeat' (first | refine zt ?_ | (refine isR ?_; first | refine zo ?_ | refine zA ?_ | refine zL ?_ | refine zc1 ?_ | refine zc2 ?_ | refine zc3 ?_ | refine zc5 ?_ | refine zI ?_ | refine zS ?_ | refine zB ?_ | (refine zs1 ?_ ?_ <;> intro hc) | (refine zs2 ?_ ?_ <;> intro hc) | (refine zs3 ?_ ?_ <;> intro hc) | (refine zs5 ?_ ?_ <;> intro hc)) | refine awp_split rfl (fun hb => ?_) (fun hb => ?_) | refine zr ?_ | exact x_le)
            exact ⟨_, ⟨hw, by omega, hne⟩, e3, (by exact x_le)⟩
          · have h48' : ¬ (c.toNat : Int) = 48 := fun h => h48 (hbe.2 h)
            rw [if_neg h48] at hw
            rw [← hw] at H
            generalize c :: d :: r = u at *
            repeat' (first | ((with_reducible refine awp_cutRH (id := 14) H ?_); exact x_le) | ((with_reducible refine awp_cutRS (id := 14) H ?_); exact x_le) | refine zt ?_ | (refine isR ?_; first | refine zo ?_ | refine zA ?_ | refine zL ?_ | refine zc1 ?_ | refine zc2 ?_ | refine zc3 ?_ | refine zc5 ?_ | refine zI ?_ | refine zS ?_ | refine zB ?_ | (refine zs1 ?_ ?_ <;> intro hc) | (refine zs2 ?_ ?_ <;> intro hc) | (refine zs3 ?_ ?_ <;> intro hc) | (refine zs5 ?_ ?_ <;> intro hc)) | refine awp_split rfl (fun hb => ?_) (fun hb => ?_) | refine zr ?_ | exact x_le)
      case k =>
        intro _
        rw [hs] at hR
        subst hR
        generalize zeroF t = z at *
        by_cases h12 : z.length ≤ 12
        · rw [if_pos h12]
          repeat' (first | refine zt ?_ | (refine isR ?_; first | refine zo ?_ | refine zA ?_ | refine zL ?_ | refine zc1 ?_ | refine zc2 ?_ | refine zc3 ?_ | refine zc5 ?_ | refine zI ?_ | refine zS ?_ | refine zB ?_ | (refine zs1 ?_ ?_ <;> intro hc) | (refine zs2 ?_ ?_ <;> intro hc) | (refine zs3 ?_ ?_ <;> intro hc) | (refine zs5 ?_ ?_ <;> intro hc)) | refine awp_split rfl (fun hb => ?_) (fun hb => ?_) | refine zr ?_ | exact x_le)
          refine awp_for (fun k => ⟨[(0, strT z), (4, .int .i64 sg), (6, .int .i64 ((value (z.take k) : Nat) : Int)), (7, .int .i64 (k : Int))], [], 0, 61⟩) (fun k => k ≤ z.length) z.length 0 (by exact x_le) (Nat.zero_le _) ?_
          intro k hk
          have hv : value (z.take k) < 1000000000000 := by
            have h1 := value_le (z.take k) (List.all_eq_true.2 fun x hx => List.all_eq_true.1 hzd x (List.mem_of_mem_take hx))
            have h2 : 10 ^ (z.take k).length ≤ 10 ^ 12 := Nat.pow_le_pow_right (by decide) (by simp; omega)
            omega
          by_cases hk2 : k < z.length
          · have e1 : z[k]? = some z[k] := by simp [hk2]
            have e2 := StampA.value_take e1
            have hdig : digB z[k] = true := List.all_eq_true.1 hzd _ (List.getElem_mem hk2)
            generalize z[k] = c at e1 e2 hdig
            have hn : 48 ≤ c.toNat ∧ c.toNat ≤ 57 := by unfold digB at hdig; simpa using hdig
            have e3 : ((value (z.take (k + 1)) : Nat) : Int) = ((value (z.take k) : Nat) : Int) * 10 + (c.toNat : Int) - 48 := by rw [e2]; omega
            generalize hm : value (z.take k) = m at *
            repeat' (first | refine zt ?_ | (refine isR ?_; first | refine zo ?_ | refine zA ?_ | refine zL ?_ | refine zc1 ?_ | refine zc2 ?_ | refine zc3 ?_ | refine zc5 ?_ | refine zI ?_ | refine zS ?_ | refine zB ?_ | (refine zs1 ?_ ?_ <;> intro hc) | (refine zs2 ?_ ?_ <;> intro hc) | (refine zs3 ?_ ?_ <;> intro hc) | (refine zs5 ?_ ?_ <;> intro hc)) | refine awp_split rfl (fun hb => ?_) (fun hb => ?_) | refine zr ?_ | exact x_le)
            refine ⟨by omega, hk2, ?_⟩
            rw [e3]
            exact (by exact x_le)
          · have e0 : z.take k = z := List.take_of_length_le (by omega)
            rw [e0]
            rw [e0] at hv
            generalize value z = m at *
            cases minus
            · obtain rfl : sg = 1 := hsg.symm
              repeat' (first | refine zt ?_ | (refine isR ?_; first | refine zo ?_ | refine zA ?_ | refine zL ?_ | refine zc1 ?_ | refine zc2 ?_ | refine zc3 ?_ | refine zc5 ?_ | refine zI ?_ | refine zS ?_ | refine zB ?_ | (refine zs1 ?_ ?_ <;> intro hc) | (refine zs2 ?_ ?_ <;> intro hc) | (refine zs3 ?_ ?_ <;> intro hc) | (refine zs5 ?_ ?_ <;> intro hc)) | refine awp_split rfl (fun hb => ?_) (fun hb => ?_) | refine zr ?_ | exact x_le)
              show V.tup _ = V.tup _
              simp
            · obtain rfl : sg = -1 := hsg.symm
              repeat' (first | refine zt ?_ | (refine isR ?_; first | refine zo ?_ | refine zA ?_ | refine zL ?_ | refine zc1 ?_ | refine zc2 ?_ | refine zc3 ?_ | refine zc5 ?_ | refine zI ?_ | refine zS ?_ | refine zB ?_ | (refine zs1 ?_ ?_ <;> intro hc) | (refine zs2 ?_ ?_ <;> intro hc) | (refine zs3 ?_ ?_ <;> intro hc) | (refine zs5 ?_ ?_ <;> intro hc)) | refine awp_split rfl (fun hb => ?_) (fun hb => ?_) | refine zr ?_ | exact x_le)
              show V.tup _ = V.tup _
              simp
        · rw [if_neg h12]
          cases minus
          · obtain rfl : sg = 1 := hsg.symm
            repeat' (first | refine zt ?_ | (refine isR ?_; first | refine zo ?_ | refine zA ?_ | refine zL ?_ | refine zc1 ?_ | refine zc2 ?_ | refine zc3 ?_ | refine zc5 ?_ | refine zI ?_ | refine zS ?_ | refine zB ?_ | (refine zs1 ?_ ?_ <;> intro hc) | (refine zs2 ?_ ?_ <;> intro hc) | (refine zs3 ?_ ?_ <;> intro hc) | (refine zs5 ?_ ?_ <;> intro hc)) | refine awp_split rfl (fun hb => ?_) (fun hb => ?_) | refine zr ?_ | exact x_le)
            rfl
          · obtain rfl : sg = -1 := hsg.symm
            repeat' (first | refine zt ?_ | (refine isR ?_; first | refine zo ?_ | refine zA ?_ | refine zL ?_ | refine zc1 ?_ | refine zc2 ?_ | refine zc3 ?_ | refine zc5 ?_ | refine zI ?_ | refine zS ?_ | refine zB ?_ | (refine zs1 ?_ ?_ <;> intro hc) | (refine zs2 ?_ ?_ <;> intro hc) | (refine zs3 ?_ ?_ <;> intro hc) | (refine zs5 ?_ ?_ <;> intro hc)) | refine awp_split rfl (fun hb => ?_) (fun hb => ?_) | refine zr ?_ | exact x_le)
            rfl
set_option maxRecDepth 100000 in
set_option maxHeartbeats 4000000 in
theorem says_v {a : Attr} : ACalls Tryz.prog 79 [a.v] (.bool (saysF a)) := by
  have c1 := StampK.stampOf_v (s := a.value)
  have c2 := ageOf_v (s := a.value)
  unfold saysF
  obtain ⟨n, v⟩ := a
  dsimp only at *
  generalize readF v = q1 at *
  generalize ageF v = q2 at *
  by_cases h1 : n = ([101, 120, 112, 105, 114, 101, 115] : List UInt8)
  · rw [if_pos (show n = nExp from h1)]
    by_cases h : q1.2 = 0
    · rw [decide_eq_true h]
      refine fun1 tb_ok Tryz.func79 rfl Tryz.ntmps79 Tryz.results79 rfl fun N => ?_
      repeat' (first | refine zt ?_ | (refine isR ?_; first | refine zo ?_ | refine zk c1 ?_ | refine zc5 ?_ | refine zc6 ?_ | (refine zs5 ?_ ?_ <;> intro hc) | (refine zs6 ?_ ?_ <;> intro hc)) | refine awp_split rfl (fun hb => ?_) (fun hb => ?_) | refine zr ?_ | exact x_le)
      rfl
    · rw [decide_eq_false h]
      refine fun1 tb_ok Tryz.func79 rfl Tryz.ntmps79 Tryz.results79 rfl fun N => ?_
      repeat' (first | refine zt ?_ | (refine isR ?_; first | refine zo ?_ | refine zk c1 ?_ | refine zc5 ?_ | refine zc6 ?_ | (refine zs5 ?_ ?_ <;> intro hc) | (refine zs6 ?_ ?_ <;> intro hc)) | refine awp_split rfl (fun hb => ?_) (fun hb => ?_) | refine zr ?_ | exact x_le)
      rfl
  rw [if_neg (show ¬ n = nExp from h1)]
  by_cases h2 : n = ([109, 97, 120, 45, 97, 103, 101] : List UInt8)
  · rw [if_pos (show n = nAge from h2)]
    refine fun1 tb_ok Tryz.func79 rfl Tryz.ntmps79 Tryz.results79 rfl fun N => ?_
    repeat' (first | refine zt ?_ | (refine isR ?_; first | refine zo ?_ | refine zk c2 ?_ | refine zc5 ?_ | refine zc6 ?_ | (refine zs5 ?_ ?_ <;> intro hc) | (refine zs6 ?_ ?_ <;> intro hc)) | refine awp_split rfl (fun hb => ?_) (fun hb => ?_) | refine zr ?_ | exact x_le)
    rfl
  rw [if_neg (show ¬ n = nAge from h2)]
  by_cases h3 : n = ([100, 111, 109, 97, 105, 110] : List UInt8)
  · rw [if_pos (show n = nDom from h3)]
    by_cases g1 : v = []
    · rw [decide_eq_false (fun h => h.1 g1)]
      refine fun1 tb_ok Tryz.func79 rfl Tryz.ntmps79 Tryz.results79 rfl fun N => ?_
      repeat' (first | refine zt ?_ | (refine isR ?_; first | refine zo ?_ | refine zc5 ?_ | refine zc6 ?_ | (refine zs5 ?_ ?_ <;> intro hc) | (refine zs6 ?_ ?_ <;> intro hc)) | refine awp_split rfl (fun hb => ?_) (fun hb => ?_) | refine zr ?_ | exact x_le)
      rfl
    by_cases g2 : v = [46]
    · rw [decide_eq_false (fun h => h.2 g2)]
      refine fun1 tb_ok Tryz.func79 rfl Tryz.ntmps79 Tryz.results79 rfl fun N => ?_
      repeat' (first | refine zt ?_ | (refine isR ?_; first | refine zo ?_ | refine zc5 ?_ | refine zc6 ?_ | (refine zs5 ?_ ?_ <;> intro hc) | (refine zs6 ?_ ?_ <;> intro hc)) | refine awp_split rfl (fun hb => ?_) (fun hb => ?_) | refine zr ?_ | exact x_le)
      rfl
    rw [decide_eq_true ⟨g1, g2⟩]
    refine fun1 tb_ok Tryz.func79 rfl Tryz.ntmps79 Tryz.results79 rfl fun N => ?_
    repeat' (first | refine zt ?_ | (refine isR ?_; first | refine zo ?_ | refine zc5 ?_ | refine zc6 ?_ | (refine zs5 ?_ ?_ <;> intro hc) | (refine zs6 ?_ ?_ <;> intro hc)) | refine awp_split rfl (fun hb => ?_) (fun hb => ?_) | refine zr ?_ | exact x_le)
    rfl
  rw [if_neg (show ¬ n = nDom from h3)]
  refine fun1 tb_ok Tryz.func79 rfl Tryz.ntmps79 Tryz.results79 rfl fun N => ?_
  repeat' (first | refine zt ?_ | (refine isR ?_; first | refine zo ?_ | refine zc5 ?_ | refine zc6 ?_ | (refine zs5 ?_ ?_ <;> intro hc) | (refine zs6 ?_ ?_ <;> intro hc)) | refine awp_split rfl (fun hb => ?_) (fun hb => ?_) | refine zr ?_ | exact x_le)
  rfl
abbrev attrsT (L : List Attr) : Abs.V := .fro (L.map Attr.v)
theorem last_step {L : List Attr} {k : Nat} {a : Attr} {n : List UInt8} (h : L[k]? = some a) : lastF (L.take (k + 1)) n = if a.name = n ∧ saysF a = true then some a.value else lastF (L.take k) n := by
  obtain ⟨hk, rfl⟩ := List.getElem?_eq_some_iff.1 h
  rw [List.take_succ_eq_append_getElem hk, last_snoc]
set_option maxRecDepth 100000 in
set_option maxHeartbeats 4000000 in
theorem lastOf_v {L : List Attr} {n : List UInt8} : ACalls Tryz.prog 38 [attrsT L, strT n] (.tup [strT ((lastF L n).getD []), .bool (lastF L n).isSome]) := ACalls.lim fun hl => by
  have hlim := (SufW.fro_lim hl).1
  have hx : ((L.map Attr.v).length : Int) = (L.length : Int) := by simp
  rw [List.length_map] at hlim
  refine fun2 tb_ok Tryz.func38 rfl Tryz.ntmps38 Tryz.results38 rfl fun N => ?_
  repeat' (first | refine zt ?_ | (refine isR ?_; first | refine zo ?_ | refine zA ?_ | refine zL ?_ | refine zc4 ?_ | refine zc5 ?_ | refine zI ?_ | (refine zs4 ?_ ?_ <;> intro hc) | (refine zs5 ?_ ?_ <;> intro hc)) | refine awp_split rfl (fun hb => ?_) (fun hb => ?_) | refine zr ?_ | exact x_le)
  refine awp_while (α := Nat) (fun k => ⟨[(0, attrsT L), (1, strT n), (4, strT []), (5, .bool false), (6, .int .i64 ((k : Int) - 1))], [], 0, 33⟩) (fun k => k ≤ L.length ∧ lastF (L.take k) n = lastF L n) (fun k => k) L.length ?_ ⟨Nat.le_refl _, by rw [List.take_length]⟩ ?_
  · rw [← hx]
    exact (by exact x_le)
  intro k ⟨hk, hq⟩
  match k with
  | 0 =>
    have e : lastF L n = none := by rw [← hq]; rfl
    rw [e]
    repeat' (first | refine zt ?_ | (refine isR ?_; first | refine zo ?_ | refine zA ?_ | refine zL ?_ | refine zc4 ?_ | refine zc5 ?_ | refine zI ?_ | (refine zs4 ?_ ?_ <;> intro hc) | (refine zs5 ?_ ?_ <;> intro hc)) | refine awp_split rfl (fun hb => ?_) (fun hb => ?_) | refine zr ?_ | exact x_le)
    rfl
  | k + 1 =>
    have hk2 : k < L.length := by omega
    have ek : (((k + 1 : Nat) : Int) - 1) = (k : Int) := by omega
    rw [ek]
    have e1 : (L.map Attr.v)[((k : Int)).toNat]? = some (L[k]).v := by simp [hk2]
    have e2 := last_step (L := L) (k := k) (a := L[k]) (n := n) (by simp [hk2])
    generalize L[k] = a at e1 e2
    have c1 := says_v (a := a)
    by_cases hn : a.name = n
    · cases hs : saysF a with
      | true =>
        rw [if_pos ⟨hn, hs⟩] at e2
        rw [hs] at c1
        rw [← hq, e2]
        repeat' (first | refine zt ?_ | (refine isR ?_; first | refine zo ?_ | refine zk c1 ?_ | refine zA ?_ | refine zL ?_ | refine zc4 ?_ | refine zc5 ?_ | refine zI ?_ | (refine zs4 ?_ ?_ <;> intro hc) | (refine zs5 ?_ ?_ <;> intro hc)) | refine awp_split rfl (fun hb => ?_) (fun hb => ?_) | refine zr ?_ | exact x_le)
        rfl
      | false =>
        rw [if_neg (fun h => by rw [hs] at h; cases h.2)] at e2
        rw [hs] at c1
        repeat' (first | refine zt ?_ | (refine isR ?_; first | refine zo ?_ | refine zk c1 ?_ | refine zA ?_ | refine zL ?_ | refine zc4 ?_ | refine zc5 ?_ | refine zI ?_ | (refine zs4 ?_ ?_ <;> intro hc) | (refine zs5 ?_ ?_ <;> intro hc)) | refine awp_split rfl (fun hb => ?_) (fun hb => ?_) | refine zr ?_ | exact x_le)
        exact ⟨k, ⟨by omega, by rw [← e2]; exact hq⟩, by omega, (by exact x_le)⟩
    · rw [if_neg (fun h => hn h.1)] at e2
      repeat' (first | refine zt ?_ | (refine isR ?_; first | refine zo ?_ | refine zA ?_ | refine zL ?_ | refine zc4 ?_ | refine zc5 ?_ | refine zI ?_ | (refine zs4 ?_ ?_ <;> intro hc) | (refine zs5 ?_ ?_ <;> intro hc)) | refine awp_split rfl (fun hb => ?_) (fun hb => ?_) | refine zr ?_ | exact x_le)
      exact ⟨k, ⟨by omega, by rw [← e2]; exact hq⟩, by omega, (by exact x_le)⟩
set_option maxRecDepth 100000 in
set_option maxHeartbeats 4000000 in
theorem isPublic_v {L : List Suffix} {d : List UInt8} (h : SufP.Hst d) : ACalls Tryz.prog 41 [SufW.sufT L, strT d] (.bool (decide (SufP.pubF L d = d))) := by
  have hlen := h.len
  have c1 := isAddress_v (l := d) (by omega)
  have c2 := SufQ.publicOf_v (L := L) h
  have hadd : address d = true → SufP.pubF L d = [] := fun ha => by unfold SufP.pubF; rw [if_pos ha]
  have hne := h.ne
  generalize SufP.pubF L d = p at *
  cases ha : address d with
  | true =>
    have hp : ¬ p = d := by rw [hadd ha]; exact fun e => hne e.symm
    rw [ha] at c1
    rw [decide_eq_false hp]
    refine fun2 tb_ok Tryz.func41 rfl Tryz.ntmps41 Tryz.results41 rfl fun N => ?_
    repeat' (first | refine zt ?_ | (refine isR ?_; first | refine zo ?_ | refine zk c1 ?_ | refine zc5 ?_ | (refine zs5 ?_ ?_ <;> intro hc)) | refine awp_split rfl (fun hb => ?_) (fun hb => ?_) | refine zr ?_ | exact x_le)
    rfl
  | false =>
    rw [ha] at c1
    by_cases hp : p = d
    · rw [decide_eq_true hp]
      refine fun2 tb_ok Tryz.func41 rfl Tryz.ntmps41 Tryz.results41 rfl fun N => ?_
      repeat' (first | refine zt ?_ | (refine isR ?_; first | refine zo ?_ | refine zk c1 ?_ | refine zk c2 ?_ | refine zc5 ?_ | (refine zs5 ?_ ?_ <;> intro hc)) | refine awp_split rfl (fun hb => ?_) (fun hb => ?_) | refine zr ?_ | exact x_le)
      rfl
    · rw [decide_eq_false hp]
      refine fun2 tb_ok Tryz.func41 rfl Tryz.ntmps41 Tryz.results41 rfl fun N => ?_
      repeat' (first | refine zt ?_ | (refine isR ?_; first | refine zo ?_ | refine zk c1 ?_ | refine zk c2 ?_ | refine zc5 ?_ | (refine zs5 ?_ ?_ <;> intro hc)) | refine awp_split rfl (fun hb => ?_) (fun hb => ?_) | refine zr ?_ | exact x_le)
      rfl
set_option maxRecDepth 100000 in
set_option maxHeartbeats 4000000 in
theorem begins_v {l m : List UInt8} : ACalls Tryz.prog 39 [strT l, strT m] (.bool (pre l m)) := ACalls.lim fun hl => by
  obtain ⟨h1, hl⟩ := TreeW.str_lim hl
  obtain ⟨h2, _⟩ := TreeW.str_lim hl
  unfold pre
  by_cases h0 : m.length ≤ l.length
  · have e0 : l.take ((m.length : Int)).toNat = l.take m.length := rfl
    by_cases h : l.take ((m.length : Int)).toNat = m
    · rw [decide_eq_true (show l.take m.length = m from h)]
      refine fun2 tb_ok Tryz.func39 rfl Tryz.ntmps39 Tryz.results39 rfl fun N => ?_
      repeat' (first | refine zt ?_ | (refine isR ?_; first | refine zo ?_ | refine zL ?_ | refine zc4 ?_ | refine zc5 ?_ | refine zS ?_ | (refine zs4 ?_ ?_ <;> intro hc) | (refine zs5 ?_ ?_ <;> intro hc)) | refine awp_split rfl (fun hb => ?_) (fun hb => ?_) | refine zr ?_ | exact x_le)
      rfl
    · rw [decide_eq_false (show ¬ l.take m.length = m from h)]
      refine fun2 tb_ok Tryz.func39 rfl Tryz.ntmps39 Tryz.results39 rfl fun N => ?_
      repeat' (first | refine zt ?_ | (refine isR ?_; first | refine zo ?_ | refine zL ?_ | refine zc4 ?_ | refine zc5 ?_ | refine zS ?_ | (refine zs4 ?_ ?_ <;> intro hc) | (refine zs5 ?_ ?_ <;> intro hc)) | refine awp_split rfl (fun hb => ?_) (fun hb => ?_) | refine zr ?_ | exact x_le)
      rfl
  · have h : ¬ l.take m.length = m := fun e => by
      have := congrArg List.length e
      simp at this; omega
    rw [decide_eq_false h]
    refine fun2 tb_ok Tryz.func39 rfl Tryz.ntmps39 Tryz.results39 rfl fun N => ?_
    repeat' (first | refine zt ?_ | (refine isR ?_; first | refine zo ?_ | refine zL ?_ | refine zc4 ?_ | refine zc5 ?_ | refine zS ?_ | (refine zs4 ?_ ?_ <;> intro hc) | (refine zs5 ?_ ?_ <;> intro hc)) | refine awp_split rfl (fun hb => ?_) (fun hb => ?_) | refine zr ?_ | exact x_le)
    rfl
theorem addOf_v {n s : Int} (h : isB n = true) : ACalls Tryz.prog 77 [.int .i64 n, .int .i64 s] (.tup [.int .i64 (afterF n s), .int .i64 0]) := fun g N w vs hG hN hlen hv => by
  obtain ⟨vs⟩ := vs
  match vs, hlen with
  | [x0, x1], _ =>
    obtain ⟨rfl, _⟩ := fz_int (hv 0 _ x0 rfl rfl)
    obtain ⟨rfl, k1⟩ := fz_int (hv 1 _ x1 rfl rfl)
    have ha := after_in (s := s) h
    simp only [InR, rng] at k1
    exact (ClockO.addOf_yes n s w (by unfold NmB; rw [h]; rfl) k1.1 k1.2).mono fun e w' ⟨he, hbel⟩ => ⟨_, he, hbel ▸ Below.refl _ _, fz_two ⟨by simp only [rng]; omega, by simp only [rng]; omega⟩ ⟨by decide, by decide⟩⟩
theorem defaultOf_v {l : List UInt8} (h : l.length ≤ 400) : ACalls Tryz.prog 36 [strT l] (strT (PathW.dflt l)) := fun g N w vs hG hN hlen hv => by
  obtain ⟨vs⟩ := vs
  match vs, hlen with
  | [x0], _ =>
    obtain ⟨rfl, h0⟩ := fz_str (hv 0 _ x0 rfl rfl)
    have hd := PathL.dflt_le l
    refine (PathW.defaultOf_any (str l) w (by rw [str_size]; omega)).mono fun e w' ⟨he, hbel⟩ => ⟨_, he, hbel ▸ Below.refl _ _, ?_⟩
    rw [str_toList]
    exact .str (by rw [str_size]; simp only [SLIM]; omega)
/-- The end that the attributes tell, and whether it is one of its own. -/
noncomputable def expF (L : List Attr) (now : Int) : Int × Bool := match lastF L nAge with
  | some v => (if 0 < (ageF v).1 then afterF now (ageF v).1 else -11644473600, true)
  | none => match lastF L nExp with
    | some v => ((readF v).1, true)
    | none => (253402300799, false)
set_option maxRecDepth 100000 in
set_option maxHeartbeats 4000000 in
theorem expiryOf_v {r : Raw} {now : Int} (h : isB now = true) : ACalls Tryz.prog 37 [r.v, .int .i64 now] (.tup [.int .i64 (expF r.attrs now).1, .bool (expF r.attrs now).2]) := by
  have c1 := lastOf_v (L := r.attrs) (n := nAge)
  have c2 := lastOf_v (L := r.attrs) (n := nExp)
  unfold expF
  obtain ⟨r1, r2, r3⟩ := r
  dsimp only at *
  cases hl : lastF r3 nAge with
  | some v =>
    rw [hl] at c1
    have c3 := ageOf_v (s := v)
    have c4 := addOf_v (s := (ageF v).1) h
    dsimp only [Option.getD, Option.isSome] at c1 ⊢
    generalize afterF now (ageF v).1 = q at *
    generalize ageF v = p at *
    by_cases hp : 0 < p.1
    · rw [if_pos hp]
      refine fun2 tb_ok Tryz.func37 rfl Tryz.ntmps37 Tryz.results37 rfl fun N => ?_
      repeat' (first | refine zt ?_ | (refine isR ?_; first | refine zo ?_ | refine zk c1 ?_ | refine zk c3 ?_ | refine zk c4 ?_ | refine zc2 ?_ | (refine zs2 ?_ ?_ <;> intro hc)) | refine awp_split rfl (fun hb => ?_) (fun hb => ?_) | refine zr ?_ | exact x_le)
      rfl
    · rw [if_neg hp]
      refine fun2 tb_ok Tryz.func37 rfl Tryz.ntmps37 Tryz.results37 rfl fun N => ?_
      repeat' (first | refine zt ?_ | (refine isR ?_; first | refine zo ?_ | refine zk c1 ?_ | refine zk c3 ?_ | refine zk c4 ?_ | refine zc2 ?_ | (refine zs2 ?_ ?_ <;> intro hc)) | refine awp_split rfl (fun hb => ?_) (fun hb => ?_) | refine zr ?_ | exact x_le)
      rfl
  | none =>
    rw [hl] at c1
    cases hm : lastF r3 nExp with
    | some v =>
      rw [hm] at c2
      have c3 := StampK.stampOf_v (s := v)
      dsimp only [Option.getD, Option.isSome] at c1 c2 ⊢
      generalize readF v = p at *
      refine fun2 tb_ok Tryz.func37 rfl Tryz.ntmps37 Tryz.results37 rfl fun N => ?_
      repeat' (first | refine zt ?_ | (refine isR ?_; first | refine zo ?_ | refine zk c1 ?_ | refine zk c2 ?_ | refine zk c3 ?_ | refine zc2 ?_ | (refine zs2 ?_ ?_ <;> intro hc)) | refine awp_split rfl (fun hb => ?_) (fun hb => ?_) | refine zr ?_ | exact x_le)
      rfl
    | none =>
      rw [hm] at c2
      dsimp only [Option.getD, Option.isSome] at c1 c2 ⊢
      refine fun2 tb_ok Tryz.func37 rfl Tryz.ntmps37 Tryz.results37 rfl fun N => ?_
      repeat' (first | refine zt ?_ | (refine isR ?_; first | refine zo ?_ | refine zk c1 ?_ | refine zk c2 ?_ | refine zc2 ?_ | (refine zs2 ?_ ?_ <;> intro hc)) | refine awp_split rfl (fun hb => ?_) (fun hb => ?_) | refine zr ?_ | exact x_le)
      rfl
end Go.Proofs.YtkgdkpiacencjaaGreatDoor.CookR
end

section
namespace Go.Proofs.YtkgdkpiacencjaaGreatDoor.CookS
open Go.RowKit Mem Abs TreeW WordP WordS HostP HostO HostA HostB HostC HostD PathT Globs StampB StampG ClockP ClockW ClockO ClockV CookP CookQ CookW CookV CookR

def domO : Option (List UInt8) → List UInt8
  | some v => fold (dotF v)
  | none => []
def pathO (f : From) : Option (List UInt8) → List UInt8
  | some v => if pre v [47] = true then v else PathW.dflt f.path
  | none => PathW.dflt f.path
theorem spec_is (r : Raw) (f : From) (now : Int) : specF r f now (lastF r.attrs) = ⟨⟨r.name, r.value, domO (lastF r.attrs nDom), pathO f (lastF r.attrs nPath), false, (lastF r.attrs nSec).isSome, (lastF r.attrs nHttp).isSome, (expF r.attrs now).2, siteF ((lastF r.attrs nSite).getD []), (expF r.attrs now).1, now, now, 0⟩, (lastF r.attrs nAge).isSome, (lastF r.attrs nDom).isSome, (lastF r.attrs nPath).isSome⟩ := by
  unfold specF expF domO pathO
  cases lastF r.attrs nAge with
  | some v => cases lastF r.attrs nSite <;> rfl
  | none => cases lastF r.attrs nExp <;> cases lastF r.attrs nSite <;> rfl
theorem last_says {l : List Attr} {n v : List UInt8} (h : lastF l n = some v) : ∃ a : Attr, a.name = n ∧ saysF a = true ∧ a.value = v := by
  unfold lastF at h
  rw [Option.map_eq_some_iff] at h
  obtain ⟨a, h1, rfl⟩ := h
  have := List.find?_some h1
  simp only [Bool.and_eq_true, decide_eq_true_eq] at this
  exact ⟨a, this.1, this.2, rfl⟩
theorem dom_says {l : List Attr} {v : List UInt8} (h : lastF l nDom = some v) : v ≠ [] ∧ v ≠ [46] := by
  obtain ⟨a, h1, h2, rfl⟩ := last_says h
  have e1 : ¬ nDom = nExp := by decide
  have e2 : ¬ nDom = nAge := by decide
  unfold saysF at h2
  rw [h1, if_neg e1, if_neg e2, if_pos rfl] at h2
  exact of_decide_eq_true h2
theorem own_is (L : List Suffix) (f : From) (m : Mk) : ownF L f m = (codeO L f m.c.domain m.told, { m with c := { m.c with domain := if m.told = false then f.host else m.c.domain, hostOnly := hostO L m.c.domain m.told m.c.hostOnly } }) := by
  unfold ownF codeO hostO
  by_cases h1 : m.told = false
  · simp only [if_pos h1]
  simp only [if_neg h1]
  by_cases h2 : SufP.hostOk m.c.domain = false
  · simp only [if_pos h2]
  simp only [if_neg h2]
  by_cases h3 : SufP.pubF L m.c.domain = m.c.domain
  · simp only [if_pos h3]
  simp only [if_neg h3]
theorem opt_two {α : Type} (o : Option α) : o = none ∨ ∃ d, o = some d := by
  cases o with
  | none => exact .inl rfl
  | some d => exact .inr ⟨d, rfl⟩
theorem cons_ne {α : Type} {l : List α} (h : l ≠ []) : ∃ b t, l = b :: t := by
  cases l with
  | nil => exact absurd rfl h
  | cons b t => exact ⟨b, t, rfl⟩
abbrev ckA (d1 d2 d3 d4 : List UInt8) (d5 d6 d7 d8 : Bool) (d9 d10 d11 d12 d13 : Int) : Blk := .els 29 13 [.agg [strT d1, strT d2, strT d3, strT d4, .bool d5, .bool d6, .bool d7, .bool d8, .int .i64 d9, .int .i64 d10, .int .i64 d11, .int .i64 d12, .int .i64 d13]]
set_option maxRecDepth 100000 in
set_option maxHeartbeats 4000000 in
theorem main_v {L : List Suffix} {r : Raw} {f : From} {now : Int} (h1 : SufP.checkF L = 0) (h2 : HeadP.checkF r = 0) (h3 : readyF f now = 0) : ACalls Tryz.prog 11 [SufW.sufT L, r.v, f.v, .int .i64 now] (.tup [(endF L f (makerF r f now)).1.v, .int .i64 (endF L f (makerF r f now)).2]) := by
  have k1 := SufW.suffixCheck_v (L := L)
  have k2 := HeadR.rawCheck_v (r := r)
  have k3 := readyOf_v (f := f) (now := now)
  rw [h1] at k1
  rw [h2] at k2
  rw [h3] at k3
  obtain ⟨g1, _, _, _, g5, g6⟩ := ready_ok h3
  have hlen := host_len g1
  have k4 := expiryOf_v (r := r) g6
  have k5 := defaultOf_v g5
  have l1 := lastOf_v (L := r.attrs) (n := nSec)
  have l2 := lastOf_v (L := r.attrs) (n := nHttp)
  have l3 := lastOf_v (L := r.attrs) (n := nPath)
  have l4 := lastOf_v (L := r.attrs) (n := nSite)
  have l5 := lastOf_v (L := r.attrs) (n := nDom)
  have k6 := foldOf_v (l := (lastF r.attrs nSite).getD [])
  have k7 := foldOf_v (l := r.name)
  have k8 := begins_v (l := fold r.name) (m := pSec)
  have k9 := begins_v (l := fold r.name) (m := pHost)
  have hex := two_pre (n := fold r.name)
  have hsay := fun v => dom_says (l := r.attrs) (v := v)
  have hm : makerF r f now = specF r f now (lastF r.attrs) := by unfold makerF; rw [maker_spec]
  rw [hm, spec_is]
  have es : siteF ((lastF r.attrs nSite).getD []) = if fold ((lastF r.attrs nSite).getD []) = ([110, 111, 110, 101] : List UInt8) then 1 else if fold ((lastF r.attrs nSite).getD []) = ([108, 97, 120] : List UInt8) then 2 else if fold ((lastF r.attrs nSite).getD []) = ([115, 116, 114, 105, 99, 116] : List UInt8) then 3 else 0 := rfl
  clear hm h1 h2 h3
  obtain ⟨r1, r2, r3⟩ := r
  obtain ⟨f1, f2, f3, f4, f5⟩ := f
  dsimp only at *
  show ACalls _ _ [SufW.sufT L, .agg [strT r1, strT r2, .fro (r3.map Attr.v)], .agg [strT f1, strT f2, .bool f3, .bool f4, .bool f5], .int .i64 now] _
  generalize lastF r3 nAge = oA at *
  generalize lastF r3 nSec = oS at *
  generalize lastF r3 nHttp = oH at *
  generalize lastF r3 nPath = oP at *
  generalize lastF r3 nSite = oT at *
  generalize lastF r3 nDom = oD at *
  generalize expF r3 now = ex at *
  obtain ⟨EX, LA⟩ := ex
  dsimp only at *
  generalize oA.isSome = AG at *
  generalize oS.isSome = bS at *
  generalize oS.getD [] = gS at *
  generalize oH.isSome = bH at *
  generalize oH.getD [] = gH at *
  generalize oT.isSome = bT at *
  generalize fold (oT.getD []) = sT at *
  generalize siteF (oT.getD []) = SI at *
  generalize oT.getD [] = gT at *
  generalize hn : fold r1 = n at *
  generalize hx1 : pre n pSec = x1 at *
  generalize hx2 : pre n pHost = x2 at *
  generalize hP : pathO ⟨f1, f2, f3, f4, f5⟩ oP = PA
  generalize hD : domO oD = DO
  generalize hT : oD.isSome = TO
  generalize hE : oP.isSome = DE
  generalize hR : endF L ⟨f1, f2, f3, f4, f5⟩ ⟨⟨r1, r2, DO, PA, false, bS, bH, LA, SI, EX, now, now, 0⟩, AG, TO, DE⟩ = R
  rw [hT] at l5
  rw [hE] at l3
  unfold endF at hR
  rw [own_is] at hR
  dsimp only at hR
  generalize hco : codeO L ⟨f1, f2, f3, f4, f5⟩ DO TO = co at *
  generalize hQD : (if TO = false then f1 else DO) = QD at *
  generalize hQH : hostO L DO TO false = QH at *
  refine fun4 tb_ok Tryz.func11 rfl Tryz.ntmps11 Tryz.results11 rfl fun N => ?_
  apply awp_share (s1 := ⟨[(6, .fp [strT f1, strT f2, .bool f3, .bool f4, .bool f5] 0), (5, .fp [strT r1, strT r2, .fro (r3.map Attr.v)] 0), (8, .loc 0 0 0), (11, .loc 1 0 0), (13, .bool DE), (19, .bool TO)], [(0, some (ckA [] [] [] [] false false false false 0 0 0 0 0)), (1, some (ckA r1 r2 QD PA QH bS bH LA SI EX now now 0))], 2, 194⟩) (co = 0 ∧ (TO = false → QH = true))
  case main =>
    intro H34
    apply awp_share (s1 := ⟨[(0, SufW.sufT L), (6, .fp [strT f1, strT f2, .bool f3, .bool f4, .bool f5] 0), (5, .fp [strT r1, strT r2, .fro (r3.map Attr.v)] 0), (8, .loc 0 0 0), (11, .loc 1 0 0), (13, .bool DE)], [(0, some (ckA [] [] [] [] false false false false 0 0 0 0 0)), (1, some (ckA r1 r2 f1 PA true bS bH LA SI EX now now 0))], 2, 194⟩) True
    case main =>
      intro H22
      have H22 := H22 trivial
      apply awp_share (s1 := ⟨[(0, SufW.sufT L), (6, .fp [strT f1, strT f2, .bool f3, .bool f4, .bool f5] 0), (5, .fp [strT r1, strT r2, .fro (r3.map Attr.v)] 0), (8, .loc 0 0 0), (11, .loc 1 0 0), (13, .bool DE)], [(0, some (ckA [] [] [] [] false false false false 0 0 0 0 0)), (1, some (ckA r1 r2 f1 PA true bS bH LA 0 EX now now 0))], 2, 194⟩) True
      case main =>
        intro H15
        have H15 := H15 trivial
        rcases opt_two oP with ho | ⟨v, ho⟩
        · have e1 : PA = PathW.dflt f2 := by rw [← hP, ho]; rfl
          have e2 : DE = false := by rw [← hE, ho]; rfl
          rw [e1, e2] at H15
          have u3 : ACalls Tryz.prog 38 [attrsT r3, strT nPath] (.tup [strT [], .bool false]) := by
            have := l3
            rw [ho, e2] at this
            exact this
          repeat' (first | ((with_reducible refine awp_cutRH (id := 15) H15 ?_); exact x_le) | ((with_reducible refine awp_cutRS (id := 15) H15 ?_); exact x_le) | refine zt ?_ | (refine isR ?_; first | refine zo ?_ | refine zk k1 ?_ | refine zk k2 ?_ | refine zk k3 ?_ | refine zk k4 ?_ | refine zk k5 ?_ | refine zk l1 ?_ | refine zk l2 ?_ | refine zk u3 ?_ | refine x_bs tb_ok ?_ | refine zA ?_ | refine zc1 ?_ | refine zc5 ?_ | refine zc6 ?_ | refine zI ?_ | refine zS ?_ | (refine zs1 ?_ ?_ <;> intro hc) | (refine zs5 ?_ ?_ <;> intro hc) | (refine zs6 ?_ ?_ <;> intro hc)) | refine awp_split rfl (fun hb => ?_) (fun hb => ?_) | refine zr ?_ | exact x_le)
        · have b1 := begins_v (l := v) (m := [47])
          have e2 : DE = true := by rw [← hE, ho]; rfl
          have u3 : ACalls Tryz.prog 38 [attrsT r3, strT nPath] (.tup [strT v, .bool true]) := by
            have := l3
            rw [ho, e2] at this
            exact this
          by_cases hv : pre v [47] = true
          · rw [hv] at b1
            have e1 : PA = v := by rw [← hP, ho]; unfold pathO; exact if_pos hv
            rw [e1, e2] at H15
            repeat' (first | ((with_reducible refine awp_cutRH (id := 15) H15 ?_); exact x_le) | ((with_reducible refine awp_cutRS (id := 15) H15 ?_); exact x_le) | refine zt ?_ | (refine isR ?_; first | refine zo ?_ | refine zk k1 ?_ | refine zk k2 ?_ | refine zk k3 ?_ | refine zk k4 ?_ | refine zk k5 ?_ | refine zk l1 ?_ | refine zk l2 ?_ | refine zk u3 ?_ | refine zk b1 ?_ | refine x_bs tb_ok ?_ | refine zA ?_ | refine zc1 ?_ | refine zc5 ?_ | refine zc6 ?_ | refine zI ?_ | refine zS ?_ | (refine zs1 ?_ ?_ <;> intro hc) | (refine zs5 ?_ ?_ <;> intro hc) | (refine zs6 ?_ ?_ <;> intro hc)) | refine awp_split rfl (fun hb => ?_) (fun hb => ?_) | refine zr ?_ | exact x_le)
          · rw [show pre v [47] = false by simpa using hv] at b1
            have e1 : PA = PathW.dflt f2 := by rw [← hP, ho]; unfold pathO; exact if_neg hv
            rw [e1, e2] at H15
            repeat' (first | ((with_reducible refine awp_cutRH (id := 15) H15 ?_); exact x_le) | ((with_reducible refine awp_cutRS (id := 15) H15 ?_); exact x_le) | refine zt ?_ | (refine isR ?_; first | refine zo ?_ | refine zk k1 ?_ | refine zk k2 ?_ | refine zk k3 ?_ | refine zk k4 ?_ | refine zk k5 ?_ | refine zk l1 ?_ | refine zk l2 ?_ | refine zk u3 ?_ | refine zk b1 ?_ | refine x_bs tb_ok ?_ | refine zA ?_ | refine zc1 ?_ | refine zc5 ?_ | refine zc6 ?_ | refine zI ?_ | refine zS ?_ | (refine zs1 ?_ ?_ <;> intro hc) | (refine zs5 ?_ ?_ <;> intro hc) | (refine zs6 ?_ ?_ <;> intro hc)) | refine awp_split rfl (fun hb => ?_) (fun hb => ?_) | refine zr ?_ | exact x_le)
      intro _
      by_cases s1 : sT = ([110, 111, 110, 101] : List UInt8)
      · have s2 : ¬ sT = ([108, 97, 120] : List UInt8) := by rw [s1]; decide
        have s3 : ¬ sT = ([115, 116, 114, 105, 99, 116] : List UInt8) := by rw [s1]; decide
        rw [es.trans (if_pos s1)] at H22
        repeat' (first | with_reducible refine rounds_on ?_ | with_reducible refine awp_rounds 4 ?_ | ((with_reducible refine awp_cutRH (id := 22) H22 ?_); exact x_le) | ((with_reducible refine awp_cutRS (id := 22) H22 ?_); exact x_le) | refine zt ?_ | (refine isR ?_; first | refine zo ?_ | refine zk k6 ?_ | refine zk l4 ?_ | refine x_bs tb_ok ?_ | refine zA ?_ | refine zc1 ?_ | refine zc5 ?_ | refine zc6 ?_ | refine zI ?_ | refine zS ?_ | (refine zs1 ?_ ?_ <;> intro hc) | (refine zs5 ?_ ?_ <;> intro hc) | (refine zs6 ?_ ?_ <;> intro hc)) | refine awp_split rfl (fun hb => ?_) (fun hb => ?_) | refine zr ?_ | exact x_le)
      by_cases s2 : sT = ([108, 97, 120] : List UInt8)
      · have s3 : ¬ sT = ([115, 116, 114, 105, 99, 116] : List UInt8) := by rw [s2]; decide
        rw [(es.trans (if_neg s1)).trans (if_pos s2)] at H22
        repeat' (first | with_reducible refine rounds_on ?_ | with_reducible refine awp_rounds 4 ?_ | ((with_reducible refine awp_cutRH (id := 22) H22 ?_); exact x_le) | ((with_reducible refine awp_cutRS (id := 22) H22 ?_); exact x_le) | refine zt ?_ | (refine isR ?_; first | refine zo ?_ | refine zk k6 ?_ | refine zk l4 ?_ | refine x_bs tb_ok ?_ | refine zA ?_ | refine zc1 ?_ | refine zc5 ?_ | refine zc6 ?_ | refine zI ?_ | refine zS ?_ | (refine zs1 ?_ ?_ <;> intro hc) | (refine zs5 ?_ ?_ <;> intro hc) | (refine zs6 ?_ ?_ <;> intro hc)) | refine awp_split rfl (fun hb => ?_) (fun hb => ?_) | refine zr ?_ | exact x_le)
      by_cases s3 : sT = ([115, 116, 114, 105, 99, 116] : List UInt8)
      · rw [((es.trans (if_neg s1)).trans (if_neg s2)).trans (if_pos s3)] at H22
        repeat' (first | with_reducible refine rounds_on ?_ | with_reducible refine awp_rounds 4 ?_ | ((with_reducible refine awp_cutRH (id := 22) H22 ?_); exact x_le) | ((with_reducible refine awp_cutRS (id := 22) H22 ?_); exact x_le) | refine zt ?_ | (refine isR ?_; first | refine zo ?_ | refine zk k6 ?_ | refine zk l4 ?_ | refine x_bs tb_ok ?_ | refine zA ?_ | refine zc1 ?_ | refine zc5 ?_ | refine zc6 ?_ | refine zI ?_ | refine zS ?_ | (refine zs1 ?_ ?_ <;> intro hc) | (refine zs5 ?_ ?_ <;> intro hc) | (refine zs6 ?_ ?_ <;> intro hc)) | refine awp_split rfl (fun hb => ?_) (fun hb => ?_) | refine zr ?_ | exact x_le)
      rw [((es.trans (if_neg s1)).trans (if_neg s2)).trans (if_neg s3)] at H22
      repeat' (first | with_reducible refine rounds_on ?_ | with_reducible refine awp_rounds 4 ?_ | ((with_reducible refine awp_cutRH (id := 22) H22 ?_); exact x_le) | ((with_reducible refine awp_cutRS (id := 22) H22 ?_); exact x_le) | refine zt ?_ | (refine isR ?_; first | refine zo ?_ | refine zk k6 ?_ | refine zk l4 ?_ | refine x_bs tb_ok ?_ | refine zA ?_ | refine zc1 ?_ | refine zc5 ?_ | refine zc6 ?_ | refine zI ?_ | refine zS ?_ | (refine zs1 ?_ ?_ <;> intro hc) | (refine zs5 ?_ ?_ <;> intro hc) | (refine zs6 ?_ ?_ <;> intro hc)) | refine awp_split rfl (fun hb => ?_) (fun hb => ?_) | refine zr ?_ | exact x_le)
    intro _
    rcases opt_two oD with ho | ⟨d, ho⟩
    · have e1 : TO = false := by rw [← hT, ho]; rfl
      have e2 : co = 0 := by rw [← hco]; unfold codeO; exact if_pos e1
      have e3 : QD = f1 := by rw [← hQD]; exact if_pos e1
      have e4 : QH = true := by rw [← hQH]; unfold hostO; exact if_pos e1
      have H34 := H34 ⟨e2, fun _ => e4⟩
      rw [e1, e3, e4] at H34
      have u5 : ACalls Tryz.prog 38 [attrsT r3, strT nDom] (.tup [strT [], .bool false]) := by
        have := l5
        rw [ho, e1] at this
        exact this
      repeat' (first | ((with_reducible refine awp_cutRH (id := 34) H34 ?_); exact x_le) | ((with_reducible refine awp_cutRS (id := 34) H34 ?_); exact x_le) | refine zt ?_ | (refine isR ?_; first | refine zo ?_ | refine zk u5 ?_ | refine x_bs tb_ok ?_ | refine zA ?_ | refine zc1 ?_ | refine zc5 ?_ | refine zc6 ?_ | refine zI ?_ | refine zS ?_ | (refine zs1 ?_ ?_ <;> intro hc) | (refine zs5 ?_ ?_ <;> intro hc) | (refine zs6 ?_ ?_ <;> intro hc)) | refine awp_split rfl (fun hb => ?_) (fun hb => ?_) | refine zr ?_ | exact x_le)
    · have e1 : TO = true := by rw [← hT, ho]; rfl
      have e1' : ¬ TO = false := by rw [e1]; decide
      have g1 : (if SufP.hostOk DO = false then 1 else if SufP.pubF L DO = DO then (if DO = f1 then 0 else 8) else (if matchF f1 DO = true then 0 else 8) : Int) = co := by rw [← hco]; unfold codeO; exact (if_neg e1').symm
      have g2 : (if SufP.hostOk DO = false then false else if SufP.pubF L DO = DO then true else false) = QH := by rw [← hQH]; unfold hostO; exact (if_neg e1').symm
      have g3 : QD = DO := by rw [← hQD]; exact if_neg e1'
      obtain ⟨y1, y2⟩ := hsay d ho
      have hdom : fold (dotF d) = DO := by rw [← hD, ho]; rfl
      have u5 : ACalls Tryz.prog 38 [attrsT r3, strT nDom] (.tup [strT d, .bool true]) := by
        have := l5
        rw [ho, e1] at this
        exact this
      apply awp_share (s1 := ⟨[(0, SufW.sufT L), (6, .fp [strT f1, strT f2, .bool f3, .bool f4, .bool f5] 0), (5, .fp [strT r1, strT r2, .fro (r3.map Attr.v)] 0), (8, .loc 0 0 0), (11, .loc 1 0 0), (13, .bool DE), (18, strT (dotF d)), (19, .bool true)], [(0, some (ckA [] [] [] [] false false false false 0 0 0 0 0)), (1, some (ckA r1 r2 f1 PA true bS bH LA SI EX now now 0))], 2, 194⟩) True
      case main =>
        intro H26
        have H26 := H26 trivial
        obtain ⟨b, t, hd⟩ := cons_ne y1
        have e0 : d[(0 : Int).toNat]? = some b := by rw [hd]; rfl
        have hb := b.toNat_lt
        have hlt : 0 < d.length := by rw [hd]; simp
        have hbe : b = 46 ↔ (b.toNat : Int) = 46 := byte_eq
        by_cases h46 : b = 46
        · have h46' := hbe.1 h46
          have e2 : dotF d = d.drop (1 : Int).toNat := by rw [hd]; unfold dotF cutP; rw [show pre (b :: t) [46] = true by unfold pre; simp [h46]]; rfl
          rw [e2] at H26
          repeat' (first | ((with_reducible refine awp_cutRH (id := 26) H26 ?_); exact x_le) | ((with_reducible refine awp_cutRS (id := 26) H26 ?_); exact x_le) | refine zt ?_ | (refine isR ?_; first | refine zo ?_ | refine zk u5 ?_ | refine x_bs tb_ok ?_ | refine zA ?_ | refine zc1 ?_ | refine zc5 ?_ | refine zc6 ?_ | refine zI ?_ | refine zS ?_ | (refine zs1 ?_ ?_ <;> intro hc) | (refine zs5 ?_ ?_ <;> intro hc) | (refine zs6 ?_ ?_ <;> intro hc)) | refine awp_split rfl (fun hb => ?_) (fun hb => ?_) | refine zr ?_ | exact x_le)
        · have h46' : ¬ (b.toNat : Int) = 46 := fun h => h46 (hbe.2 h)
          have e2 : dotF d = d := by rw [hd]; unfold dotF cutP; rw [show pre (b :: t) [46] = false by unfold pre; simp [h46]]; rfl
          rw [e2] at H26
          repeat' (first | ((with_reducible refine awp_cutRH (id := 26) H26 ?_); exact x_le) | ((with_reducible refine awp_cutRS (id := 26) H26 ?_); exact x_le) | refine zt ?_ | (refine isR ?_; first | refine zo ?_ | refine zk u5 ?_ | refine x_bs tb_ok ?_ | refine zA ?_ | refine zc1 ?_ | refine zc5 ?_ | refine zc6 ?_ | refine zI ?_ | refine zS ?_ | (refine zs1 ?_ ?_ <;> intro hc) | (refine zs5 ?_ ?_ <;> intro hc) | (refine zs6 ?_ ?_ <;> intro hc)) | refine awp_split rfl (fun hb => ?_) (fun hb => ?_) | refine zr ?_ | exact x_le)
      intro _
      have c1 := foldOf_v (l := dotF d)
      rw [hdom] at c1
      have c2 := SufW.isHost_v (l := DO)
      by_cases hh : SufP.hostOk DO = false
      · rw [hh] at c2
        have g4 := g1.symm.trans (if_pos hh)
        have g5 := hR
        rw [g4, if_pos (by decide)] at g5
        repeat' (first | refine zt ?_ | (refine isR ?_; first | refine zo ?_ | refine zk c1 ?_ | refine zk c2 ?_ | refine x_bs tb_ok ?_ | refine zA ?_ | refine zc1 ?_ | refine zc5 ?_ | refine zc6 ?_ | refine zI ?_ | refine zS ?_ | (refine zs1 ?_ ?_ <;> intro hc) | (refine zs5 ?_ ?_ <;> intro hc) | (refine zs6 ?_ ?_ <;> intro hc)) | refine awp_split rfl (fun hb => ?_) (fun hb => ?_) | refine zr ?_ | exact x_le)
        rw [← g5]; rfl
      · have hh' : SufP.hostOk DO = true := by simpa using hh
        have hst := (SufP.host_iff _).1 hh'
        have hl2 := hst.len
        rw [hh'] at c2
        have g4 := g1.symm.trans (if_neg hh)
        have g6 := g2.symm.trans (if_neg hh)
        have c3 := isPublic_v (L := L) hst
        have c4 := isMatch_v (l := f1) (m := DO) (by omega) (by omega)
        by_cases hp : SufP.pubF L DO = DO
        · rw [decide_eq_true hp] at c3
          rw [if_pos hp] at g4 g6
          by_cases hd : DO = f1
          · rw [if_pos hd] at g4
            have H34 := H34 ⟨g4, fun h => by rw [e1] at h; cases h⟩
            have hmm : matchF f1 DO = true := by rw [hd]; exact match_self f1
            rw [hmm] at c4
            rw [e1, g3, g6] at H34
            repeat' (first | ((with_reducible refine awp_cutRH (id := 34) H34 ?_); exact x_le) | ((with_reducible refine awp_cutRS (id := 34) H34 ?_); exact x_le) | refine zt ?_ | (refine isR ?_; first | refine zo ?_ | refine zk c1 ?_ | refine zk c2 ?_ | refine zk c3 ?_ | refine zk c4 ?_ | refine x_bs tb_ok ?_ | refine zA ?_ | refine zc1 ?_ | refine zc5 ?_ | refine zc6 ?_ | refine zI ?_ | refine zS ?_ | (refine zs1 ?_ ?_ <;> intro hc) | (refine zs5 ?_ ?_ <;> intro hc) | (refine zs6 ?_ ?_ <;> intro hc)) | refine awp_split rfl (fun hb => ?_) (fun hb => ?_) | refine zr ?_ | exact x_le)
          · rw [if_neg hd] at g4
            have g5 := hR
            rw [g4, if_pos (by decide)] at g5
            repeat' (first | refine zt ?_ | (refine isR ?_; first | refine zo ?_ | refine zk c1 ?_ | refine zk c2 ?_ | refine zk c3 ?_ | refine zk c4 ?_ | refine x_bs tb_ok ?_ | refine zA ?_ | refine zc1 ?_ | refine zc5 ?_ | refine zc6 ?_ | refine zI ?_ | refine zS ?_ | (refine zs1 ?_ ?_ <;> intro hc) | (refine zs5 ?_ ?_ <;> intro hc) | (refine zs6 ?_ ?_ <;> intro hc)) | refine awp_split rfl (fun hb => ?_) (fun hb => ?_) | refine zr ?_ | exact x_le)
            rw [← g5]; rfl
        · rw [decide_eq_false hp] at c3
          rw [if_neg hp] at g4 g6
          by_cases hmm : matchF f1 DO = true
          · rw [hmm] at c4
            rw [if_pos hmm] at g4
            have H34 := H34 ⟨g4, fun h => by rw [e1] at h; cases h⟩
            rw [e1, g3, g6] at H34
            repeat' (first | ((with_reducible refine awp_cutRH (id := 34) H34 ?_); exact x_le) | ((with_reducible refine awp_cutRS (id := 34) H34 ?_); exact x_le) | refine zt ?_ | (refine isR ?_; first | refine zo ?_ | refine zk c1 ?_ | refine zk c2 ?_ | refine zk c3 ?_ | refine zk c4 ?_ | refine x_bs tb_ok ?_ | refine zA ?_ | refine zc1 ?_ | refine zc5 ?_ | refine zc6 ?_ | refine zI ?_ | refine zS ?_ | (refine zs1 ?_ ?_ <;> intro hc) | (refine zs5 ?_ ?_ <;> intro hc) | (refine zs6 ?_ ?_ <;> intro hc)) | refine awp_split rfl (fun hb => ?_) (fun hb => ?_) | refine zr ?_ | exact x_le)
          · rw [show matchF f1 DO = false by simpa using hmm] at c4
            rw [if_neg hmm] at g4
            have g5 := hR
            rw [g4, if_pos (by decide)] at g5
            repeat' (first | refine zt ?_ | (refine isR ?_; first | refine zo ?_ | refine zk c1 ?_ | refine zk c2 ?_ | refine zk c3 ?_ | refine zk c4 ?_ | refine x_bs tb_ok ?_ | refine zA ?_ | refine zc1 ?_ | refine zc5 ?_ | refine zc6 ?_ | refine zI ?_ | refine zS ?_ | (refine zs1 ?_ ?_ <;> intro hc) | (refine zs5 ?_ ?_ <;> intro hc) | (refine zs6 ?_ ?_ <;> intro hc)) | refine awp_split rfl (fun hb => ?_) (fun hb => ?_) | refine zr ?_ | exact x_le)
            rw [← g5]; rfl
  rintro ⟨e0, h5⟩
  have hR2 : (if barF ⟨f1, f2, f3, f4, f5⟩ ⟨⟨r1, r2, QD, PA, QH, bS, bH, LA, SI, EX, now, now, 0⟩, AG, TO, DE⟩ = true then (cook0, 8) else (⟨r1, r2, QD, PA, QH, bS, bH, LA, SI, EX, now, now, 0⟩, 0)) = R := by
    rw [← hR, e0]
    rfl
  have eb : barF ⟨f1, f2, f3, f4, f5⟩ ⟨⟨r1, r2, QD, PA, QH, bS, bH, LA, SI, EX, now, now, 0⟩, AG, TO, DE⟩ = if (bH && f4 || bS && !f3) = true then true else if pre (fold r1) pSec = true then !bS else if pre (fold r1) pHost = true then !bS || (!QH || (TO || (!decide (PA = [47]) || !DE))) else false := rfl
  rw [eb, hn, hx1, hx2] at hR2
  clear hR eb hco hQD hQH hD hT hP hE l1 l2 l3 l4 l5 k1 k2 k3 k4 k5 k6 es hsay e0 hn hx1 hx2
  by_cases hz : (bH && f4 || bS && !f3) = true
  · rw [if_pos hz] at hR2
    subst hR2
    cases bH <;> cases f4 <;> cases bS <;> cases f3
    all_goals first
      | exact absurd hz (by decide)
      | skip
    all_goals
      repeat' (first | refine zt ?_ | (refine isR ?_; first | refine zo ?_ | refine zk k7 ?_ | refine zk k8 ?_ | refine x_bs tb_ok ?_ | refine zA ?_ | refine zc1 ?_ | refine zc5 ?_ | refine zc6 ?_ | refine zI ?_ | refine zS ?_ | (refine zs1 ?_ ?_ <;> intro hc) | (refine zs5 ?_ ?_ <;> intro hc) | (refine zs6 ?_ ?_ <;> intro hc)) | refine awp_split rfl (fun hb => ?_) (fun hb => ?_) | refine zr ?_ | exact x_le)
      rfl
  · rw [if_neg hz] at hR2
    cases bH <;> cases f4 <;> cases bS <;> cases f3
    all_goals first
      | exact absurd rfl hz
      | skip
    all_goals
      clear hz
      cases x1
      · cases x2
        · subst hR2
          repeat' (first | refine zt ?_ | (refine isR ?_; first | refine zo ?_ | refine zk k7 ?_ | refine zk k8 ?_ | refine zk k9 ?_ | refine x_bs tb_ok ?_ | refine zA ?_ | refine zc1 ?_ | refine zc5 ?_ | refine zc6 ?_ | refine zI ?_ | refine zS ?_ | (refine zs1 ?_ ?_ <;> intro hc) | (refine zs5 ?_ ?_ <;> intro hc) | (refine zs6 ?_ ?_ <;> intro hc)) | refine awp_split rfl (fun hb => ?_) (fun hb => ?_) | refine zr ?_ | exact x_le)
          rfl
        · cases TO
          · obtain rfl : QH = true := h5 rfl
            by_cases hp : PA = [47]
            · rw [decide_eq_true hp] at hR2
              cases DE
              · subst hR2
                repeat' (first | refine zt ?_ | (refine isR ?_; first | refine zo ?_ | refine zk k7 ?_ | refine zk k8 ?_ | refine zk k9 ?_ | refine x_bs tb_ok ?_ | refine zA ?_ | refine zc1 ?_ | refine zc5 ?_ | refine zc6 ?_ | refine zI ?_ | refine zS ?_ | (refine zs1 ?_ ?_ <;> intro hc) | (refine zs5 ?_ ?_ <;> intro hc) | (refine zs6 ?_ ?_ <;> intro hc)) | refine awp_split rfl (fun hb => ?_) (fun hb => ?_) | refine zr ?_ | exact x_le)
                rfl
              · subst hR2
                repeat' (first | refine zt ?_ | (refine isR ?_; first | refine zo ?_ | refine zk k7 ?_ | refine zk k8 ?_ | refine zk k9 ?_ | refine x_bs tb_ok ?_ | refine zA ?_ | refine zc1 ?_ | refine zc5 ?_ | refine zc6 ?_ | refine zI ?_ | refine zS ?_ | (refine zs1 ?_ ?_ <;> intro hc) | (refine zs5 ?_ ?_ <;> intro hc) | (refine zs6 ?_ ?_ <;> intro hc)) | refine awp_split rfl (fun hb => ?_) (fun hb => ?_) | refine zr ?_ | exact x_le)
                rfl
            · rw [decide_eq_false hp] at hR2
              subst hR2
              repeat' (first | refine zt ?_ | (refine isR ?_; first | refine zo ?_ | refine zk k7 ?_ | refine zk k8 ?_ | refine zk k9 ?_ | refine x_bs tb_ok ?_ | refine zA ?_ | refine zc1 ?_ | refine zc5 ?_ | refine zc6 ?_ | refine zI ?_ | refine zS ?_ | (refine zs1 ?_ ?_ <;> intro hc) | (refine zs5 ?_ ?_ <;> intro hc) | (refine zs6 ?_ ?_ <;> intro hc)) | refine awp_split rfl (fun hb => ?_) (fun hb => ?_) | refine zr ?_ | exact x_le)
              rfl
          · cases QH
            · subst hR2
              repeat' (first | refine zt ?_ | (refine isR ?_; first | refine zo ?_ | refine zk k7 ?_ | refine zk k8 ?_ | refine zk k9 ?_ | refine x_bs tb_ok ?_ | refine zA ?_ | refine zc1 ?_ | refine zc5 ?_ | refine zc6 ?_ | refine zI ?_ | refine zS ?_ | (refine zs1 ?_ ?_ <;> intro hc) | (refine zs5 ?_ ?_ <;> intro hc) | (refine zs6 ?_ ?_ <;> intro hc)) | refine awp_split rfl (fun hb => ?_) (fun hb => ?_) | refine zr ?_ | exact x_le)
              rfl
            · subst hR2
              repeat' (first | refine zt ?_ | (refine isR ?_; first | refine zo ?_ | refine zk k7 ?_ | refine zk k8 ?_ | refine zk k9 ?_ | refine x_bs tb_ok ?_ | refine zA ?_ | refine zc1 ?_ | refine zc5 ?_ | refine zc6 ?_ | refine zI ?_ | refine zS ?_ | (refine zs1 ?_ ?_ <;> intro hc) | (refine zs5 ?_ ?_ <;> intro hc) | (refine zs6 ?_ ?_ <;> intro hc)) | refine awp_split rfl (fun hb => ?_) (fun hb => ?_) | refine zr ?_ | exact x_le)
              rfl
      · obtain rfl : x2 = false := hex rfl
        subst hR2
        repeat' (first | refine zt ?_ | (refine isR ?_; first | refine zo ?_ | refine zk k7 ?_ | refine zk k8 ?_ | refine zk k9 ?_ | refine x_bs tb_ok ?_ | refine zA ?_ | refine zc1 ?_ | refine zc5 ?_ | refine zc6 ?_ | refine zI ?_ | refine zS ?_ | (refine zs1 ?_ ?_ <;> intro hc) | (refine zs5 ?_ ?_ <;> intro hc) | (refine zs6 ?_ ?_ <;> intro hc)) | refine awp_split rfl (fun hb => ?_) (fun hb => ?_) | refine zr ?_ | exact x_le)
        rfl
set_option maxRecDepth 100000 in
set_option maxHeartbeats 4000000 in
theorem cookieOf_v {L : List Suffix} {r : Raw} {f : From} {now : Int} : ACalls Tryz.prog 11 [SufW.sufT L, r.v, f.v, .int .i64 now] (.tup [(cookF L r f now).1.v, .int .i64 (cookF L r f now).2]) := by
  have k1 := SufW.suffixCheck_v (L := L)
  have k2 := HeadR.rawCheck_v (r := r)
  have k3 := readyOf_v (f := f) (now := now)
  unfold cookF
  by_cases h1 : SufP.checkF L = 0
  · rw [if_neg (fun h => h h1)]
    by_cases h2 : HeadP.checkF r = 0
    · rw [if_neg (fun h => h h2)]
      by_cases h3 : readyF f now = 0
      · rw [if_neg (fun h => h h3)]
        exact main_v h1 h2 h3
      · rw [if_pos h3]
        rw [h1] at k1
        rw [h2] at k2
        generalize readyF f now = n at *
        refine fun4 tb_ok Tryz.func11 rfl Tryz.ntmps11 Tryz.results11 rfl fun N => ?_
        repeat' (first | refine zt ?_ | (refine isR ?_; first | refine zo ?_ | refine zk k1 ?_ | refine zk k2 ?_ | refine zk k3 ?_ | refine x_bs tb_ok ?_ | refine zA ?_ | refine zc1 ?_ | refine zc5 ?_ | refine zc6 ?_ | refine zI ?_ | refine zS ?_ | (refine zs1 ?_ ?_ <;> intro hc) | (refine zs5 ?_ ?_ <;> intro hc) | (refine zs6 ?_ ?_ <;> intro hc)) | refine awp_split rfl (fun hb => ?_) (fun hb => ?_) | refine zr ?_ | exact x_le)
        rfl
    · rw [if_pos h2]
      rw [h1] at k1
      generalize HeadP.checkF r = n at *
      refine fun4 tb_ok Tryz.func11 rfl Tryz.ntmps11 Tryz.results11 rfl fun N => ?_
      repeat' (first | refine zt ?_ | (refine isR ?_; first | refine zo ?_ | refine zk k1 ?_ | refine zk k2 ?_ | refine x_bs tb_ok ?_ | refine zA ?_ | refine zc1 ?_ | refine zc5 ?_ | refine zc6 ?_ | refine zI ?_ | refine zS ?_ | (refine zs1 ?_ ?_ <;> intro hc) | (refine zs5 ?_ ?_ <;> intro hc) | (refine zs6 ?_ ?_ <;> intro hc)) | refine awp_split rfl (fun hb => ?_) (fun hb => ?_) | refine zr ?_ | exact x_le)
      rfl
  · rw [if_pos h1]
    generalize SufP.checkF L = n at *
    refine fun4 tb_ok Tryz.func11 rfl Tryz.ntmps11 Tryz.results11 rfl fun N => ?_
    repeat' (first | refine zt ?_ | (refine isR ?_; first | refine zo ?_ | refine zk k1 ?_ | refine x_bs tb_ok ?_ | refine zA ?_ | refine zc1 ?_ | refine zc5 ?_ | refine zc6 ?_ | refine zI ?_ | refine zS ?_ | (refine zs1 ?_ ?_ <;> intro hc) | (refine zs5 ?_ ?_ <;> intro hc) | (refine zs6 ?_ ?_ <;> intro hc)) | refine awp_split rfl (fun hb => ?_) (fun hb => ?_) | refine zr ?_ | exact x_le)
    rfl
end Go.Proofs.YtkgdkpiacencjaaGreatDoor.CookS
end

section
namespace Go.Proofs.YtkgdkpiacencjaaGreatDoor.CookT
open Go.RowKit Mem Abs TreeW WordP WordS HostP HostO HostA HostB HostC HostD PathT Globs StampB StampG ClockP ClockW ClockO ClockV CookP CookQ CookW CookV CookR CookS CookL Both
set_option maxRecDepth 100000 in
set_option maxHeartbeats 4000000 in
theorem tells_law {L : List Suffix} {r : Raw} {f : From} {now : Int} {s : List UInt8} (hr : ∀ a ∈ r.attrs, a.value.length ≤ 140737488355328) (hs : s.length ≤ 140737488355328) : ACallsG Tryz.prog gBoth 3 [SufW.sufT L, r.v, f.v, .int .i64 now, strT s] (.bool true) := by
  have c1 := make_v (L := L) (r := r) (f := f) (now := now) hr
  have c2 := cookieOf_v (L := L) (r := r) (f := f) (now := now)
  have c3 := age_v hs
  have c4 := ageOf_v (s := s)
  have c5 := ready_v (f := f) (now := now)
  have c6 := readyOf_v (f := f) (now := now)
  generalize cookF L r f now = q at *
  generalize ageF s = p at *
  generalize readyF f now = n at *
  have he := CookL.eq_self q.1
  refine funG5 tb_ok Tryz.func3 rfl Tryz.ntmps3 Tryz.results3 rfl fun N => ?_
  repeat' (first | refine zt ?_ | (refine isR ?_; first | refine zo ?_ | refine zk begun_v ?_ | refine zk c1 ?_ | refine zk c2 ?_ | refine zk c3 ?_ | refine zk c4 ?_ | refine zk c5 ?_ | refine zk c6 ?_ | refine zc5 ?_ | (refine zs5 ?_ ?_ <;> intro hc)) | refine awp_split rfl (fun hb => ?_) (fun hb => ?_) | refine zr ?_ | exact x_le)
  rfl
end Go.Proofs.YtkgdkpiacencjaaGreatDoor.CookT
end
