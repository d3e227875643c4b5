/- Texts of the proof, joined: JarV, JarW. -/
import Derived.Test.YtoehdmbogdpncaaGreatDoorG12
import Derived.Test.YtoehdmbogdpncaaGreatDoorG10
import Derived.Test.YtoehdmbogdpncaaGreatDoorG18
import Derived.Test.YtoehdmbogdpncaaGreatDoorG8
section
namespace Go.Proofs.YtoehdmbogdpncaaGreatDoor.JarV
open Abs Scan JarP JarQ JarC JarR

theorem lessU_iff {a b : Cookie} : lessU a b = true ↔ a.used < b.used ∨ a.used = b.used ∧ a.no < b.no := by
  unfold lessU
  rw [Bool.or_eq_true, Bool.and_eq_true, decide_eq_true_eq, decide_eq_true_eq, decide_eq_true_eq]
theorem lessU_no {a b : Cookie} : lessU a b = false ↔ ¬ (a.used < b.used ∨ a.used = b.used ∧ a.no < b.no) := by
  rw [← lessU_iff]
  cases lessU a b <;> simp
theorem minAt_least {p : Cookie → Bool} {L : List Cookie} : ∀ {k a : Nat} {m : Cookie}, minAt p L k = some a → L[a]? = some m → ∀ j x, j < k → L[j]? = some x → p x = true → lessU x m = false
  | 0, _, _, h, _, _, _, _, _, _ => by cases h
  | k + 1, a, m, h, hm, j, x, hj, hx, hp => by
    rw [minAt] at h
    cases hc : L[k]? with
    | none =>
      rw [hc] at h
      have hjk : j ≠ k := fun e => by rw [e, hc] at hx; cases hx
      exact minAt_least (k := k) h hm j x (by omega) hx hp
    | some c =>
      rw [hc] at h
      dsimp only at h
      by_cases hpc : p c = true
      · rw [if_pos hpc] at h
        cases hq : minAt p L k with
        | none =>
          rw [hq] at h
          cases h
          rw [hc] at hm
          cases hm
          by_cases e : j = k
          · rw [e, hc] at hx; cases hx; exact lessU_no.2 (by omega)
          · have hlt := (List.getElem?_eq_some_iff.1 hc).1
            obtain ⟨b, hb⟩ := minAt_some (p := p) (L := L) (k := k) (by omega) (by
              rw [List.countP_pos_iff]
              exact ⟨x, List.mem_of_getElem? (i := j) (by rw [List.getElem?_take_of_lt (by omega)]; exact hx), hp⟩)
            rw [hq] at hb; cases hb
        | some b =>
          rw [hq] at h
          dsimp only at h
          obtain ⟨_, d, hd, _⟩ := minAt_is hq
          have ih := minAt_least (k := k) hq hd
          rw [List.getD_eq_getElem?_getD, hd, Option.getD_some] at h
          by_cases g : lessU c d = true
          · rw [if_pos g] at h
            cases h
            rw [hc] at hm
            cases hm
            by_cases e : j = k
            · rw [e, hc] at hx; cases hx; exact lessU_no.2 (by omega)
            · have h1 := lessU_no.1 (ih j x (by omega) hx hp)
              have h2 := lessU_iff.1 g
              exact lessU_no.2 (by omega)
          · rw [if_neg g] at h
            cases h
            rw [hd] at hm
            cases hm
            by_cases e : j = k
            · rw [e, hc] at hx; cases hx; simpa using g
            · exact ih j x (by omega) hx hp
      · rw [if_neg hpc] at h
        have hjk : j ≠ k := fun e => by rw [e, hc] at hx; cases hx; exact hpc hp
        exact minAt_least (k := k) h hm j x (by omega) hx hp
theorem erase_cnt {p : Cookie → Bool} {L : List Cookie} {a : Nat} {m : Cookie} (h : L[a]? = some m) (hp : p m = true) : (L.eraseIdx a).countP p + 1 = L.countP p := by
  obtain ⟨hlt, e⟩ := List.getElem?_eq_some_iff.1 h
  have h1 : L.countP p = (L.take a).countP p + ((L.drop a).countP p) := by rw [← List.countP_append, List.take_append_drop]
  rw [List.eraseIdx_eq_take_drop_succ, List.countP_append, h1, List.drop_eq_getElem_cons hlt, e, List.countP_cons, if_pos hp]
  omega
theorem ev_cnt {most : Nat} {p : Cookie → Bool} : ∀ (n : Nat) (L : List Cookie), L.length < n → most ≤ L.countP p → (evF most p n L).countP p = most
  | 0, L, h, _ => by omega
  | n + 1, L, h, hm => by
    rw [evF]
    by_cases hc : L.countP p ≤ most
    · rw [if_pos hc]; omega
    · rw [if_neg hc]
      obtain ⟨a, ha⟩ := minAt_some (p := p) (L := L) (Nat.le_refl _) (by rw [List.take_length]; omega)
      rw [ha]
      dsimp only
      obtain ⟨hlt, m, hm1, hm2⟩ := minAt_is ha
      have := erase_cnt hm1 hm2
      exact ev_cnt n _ (by rw [List.length_eraseIdx, if_pos hlt]; omega) (by omega)
/-- Who goes. -/
theorem ev_out {most : Nat} {p : Cookie → Bool} : ∀ (n : Nat) (L : List Cookie), L.length < n → ∀ x ∈ L, x ∉ evF most p n L → p x = true ∧ (evF most p n L).countP p = most ∧ ∀ y ∈ evF most p n L, p y = true → lessU y x = false
  | 0, L, h, _, _, _ => by omega
  | n + 1, L, h, x, hx, hno => by
    rw [evF] at hno ⊢
    by_cases hc : L.countP p ≤ most
    · rw [if_pos hc] at hno; exact absurd hx hno
    · rw [if_neg hc] at hno ⊢
      obtain ⟨a, ha⟩ := minAt_some (p := p) (L := L) (Nat.le_refl _) (by rw [List.take_length]; omega)
      rw [ha] at hno ⊢
      dsimp only at hno ⊢
      obtain ⟨hlt, m, hm1, hm2⟩ := minAt_is ha
      have hcn := erase_cnt hm1 hm2
      have hlen : (L.eraseIdx a).length < n := by rw [List.length_eraseIdx, if_pos hlt]; omega
      by_cases hm : x ∈ L.eraseIdx a
      · exact ev_out n _ hlen x hm hno
      · have hxm : x = m := by
          obtain ⟨i, hi⟩ := List.mem_iff_getElem?.1 hx
          rcases Nat.lt_trichotomy i a with q | q | q
          · exact absurd (List.mem_of_getElem? (i := i) (by rw [List.getElem?_eraseIdx_of_lt q]; exact hi)) hm
          · subst q; rw [hm1] at hi; cases hi; rfl
          · exact absurd (List.mem_of_getElem? (i := i - 1) (by rw [List.getElem?_eraseIdx_of_ge (by omega), show i - 1 + 1 = i by omega]; exact hi)) hm
        subst hxm
        refine ⟨hm2, ev_cnt n _ hlen (by omega), fun y hy hpy => ?_⟩
        have hy2 : y ∈ L := (List.eraseIdx_sublist ..).subset ((evF_sub _ _).subset hy)
        obtain ⟨j, hj⟩ := List.mem_iff_getElem?.1 hy2
        exact minAt_least ha hm1 j y (List.getElem?_eq_some_iff.1 hj).1 hj hpy
/-- Who is of the most use stays. -/
theorem ev_most {most : Nat} {p : Cookie → Bool} (h0 : 0 < most) {n : Nat} {L : List Cookie} (hl : L.length < n) {d : Cookie} (hd : d ∈ L) (hmost : ∀ x ∈ L, x = d ∨ x.used < d.used) : d ∈ evF most p n L := by
  refine Classical.byContradiction fun hno => ?_
  obtain ⟨_, h2, h3⟩ := ev_out n L hl d hd hno
  have : 0 < (evF most p n L).countP p := by omega
  obtain ⟨y, hy, hpy⟩ := List.countP_pos_iff.1 this
  rcases hmost y ((evF_sub _ _).subset hy) with e | e
  · subst e; exact hno hy
  · have := lessU_no.1 (h3 y hy hpy); omega
/-- What a cookie laid in makes of a list. -/
theorem lay_is {L : List Cookie} {nx : Int} {c : Cookie} (h : L.Pairwise fun a b => sameK a b = false ∧ a.no ≠ b.no) : ∃ d, d ∈ (layF L nx c).1 ∧ sameK d c = true ∧ d.used = c.used ∧ d.expiry = c.expiry ∧ d.domain = c.domain ∧
    (∀ x ∈ (layF L nx c).1, x = d ∨ (x ∈ L ∧ sameK x c = false)) ∧ (∀ x ∈ L, sameK x c = false → x ∈ (layF L nx c).1) ∧ ∀ x ∈ L, sameK x c = true → d.no = x.no ∧ d.created = x.created := by
  have self : ∀ a b : Cookie, a.name = b.name → a.domain = b.domain → a.path = b.path → sameK a b = true := fun a b h1 h2 h3 => sameK_key.2 ⟨h1, h2, h3⟩
  unfold layF
  cases hf : L.findIdx? (fun x => sameK x c) with
  | none =>
    have hno : ∀ x ∈ L, sameK x c = false := List.findIdx?_eq_none_iff.1 hf
    dsimp only
    refine ⟨{ c with no := nx }, by simp, self _ _ rfl rfl rfl, rfl, rfl, rfl, fun x hx => ?_, fun x hx _ => by simp [hx], fun x hx hk => by rw [hno x hx] at hk; cases hk⟩
    rcases List.mem_append.1 hx with hx | hx
    · exact .inr ⟨hx, hno x hx⟩
    · rw [List.mem_singleton] at hx; exact .inl hx
  | some i =>
    obtain ⟨hi, hk, _⟩ := List.findIdx?_eq_some_iff_getElem.1 hf
    have hat : L.getD i c = L[i] := by rw [List.getD_eq_getElem?_getD, List.getElem?_eq_getElem hi]; rfl
    have hp := List.pairwise_iff_getElem.1 h
    have one : ∀ j (hj : j < L.length), sameK L[j] c = true → j = i := fun j hj hq => by
      have g1 : sameK L[j] L[i] = true := by rw [sameK_comm, sameK_left hk, sameK_comm]; exact hq
      rcases Nat.lt_trichotomy j i with q | q | q
      · rw [(hp j i hj hi q).1] at g1; cases g1
      · exact q
      · rw [sameK_comm, (hp i j hi hj q).1] at g1; cases g1
    dsimp only
    rw [hat]
    refine ⟨{ c with created := (L[i]).created, no := (L[i]).no }, List.mem_of_getElem? (i := i) (by rw [List.getElem?_set, if_pos rfl, if_pos hi]), self _ _ rfl rfl rfl, rfl, rfl, rfl, fun x hx => ?_, fun x hx hq => ?_, fun x hx hq => ?_⟩
    · obtain ⟨j, hj⟩ := List.mem_iff_getElem?.1 hx
      rw [List.getElem?_set] at hj
      by_cases e : i = j
      · rw [if_pos e, if_pos (by omega)] at hj
        cases hj
        exact .inl rfl
      · rw [if_neg e] at hj
        obtain ⟨hjl, e2⟩ := List.getElem?_eq_some_iff.1 hj
        refine .inr ⟨List.mem_of_getElem? hj, ?_⟩
        cases hq : sameK x c with
        | false => rfl
        | true => rw [← e2] at hq; exact absurd (one j hjl hq).symm e
    · obtain ⟨j, hj⟩ := List.mem_iff_getElem?.1 hx
      have hne : i ≠ j := fun e => by
        subst e
        obtain ⟨_, e2⟩ := List.getElem?_eq_some_iff.1 hj
        rw [e2, hq] at hk; cases hk
      exact List.mem_of_getElem? (i := j) (by rw [List.getElem?_set, if_neg hne]; exact hj)
    · obtain ⟨j, hj⟩ := List.mem_iff_getElem?.1 hx
      obtain ⟨hjl, e2⟩ := List.getElem?_eq_some_iff.1 hj
      subst e2
      have := one j hjl hq
      subst this
      exact ⟨rfl, rfl⟩
/-- What Put makes of a jar. -/
structure Made (L E : List Cookie) (c d : Cookie) (now : Int) : Prop where
  key : sameK d c = true
  all : ∀ x ∈ E, (x = d ∧ now < c.expiry) ∨ (x ∈ L ∧ sameK x c = false)
  kept : ∀ x ∈ L, now < x.expiry → sameK x c = true → d.no = x.no ∧ d.created = x.created
  there : now < c.expiry → (∀ x ∈ L, x.used < c.used) → d ∈ E
  gone : ∀ x ∈ L, now < x.expiry → sameK x c = false → x ∉ E → (E.length = 12 ∨ (x.domain = c.domain ∧ E.countP (fun y => decide (y.domain = x.domain)) = 4)) ∧ ∀ y ∈ E, y.domain = x.domain → lessU x y = true
theorem put_made {L : List Cookie} {nx : Int} {c : Cookie} {now : Int} (h : Rj L nx) (hc : badM c = false) (hn : nx < 1099511627776) : ∃ d, Made L (putF L nx c now).1 c d now := by
  have hw := (Rj.weak h).sub (M := liveF now L) List.filter_sublist
  obtain ⟨k1, _⟩ := lay_weak hw hc hn
  obtain ⟨d, d1, d2, d3, d4, d5, d6, d7, d8⟩ := lay_is (nx := nx) (c := c) hw.dis
  have hlive : ∀ M : List Cookie, ∀ x, x ∈ liveF now M ↔ x ∈ M ∧ now < x.expiry := fun M x => by unfold liveF; rw [List.mem_filter, decide_eq_true_eq]
  unfold putF
  dsimp only
  generalize hr : layF (liveF now L) nx c = r at *
  have s1 : (liveF now r.1).Sublist r.1 := List.filter_sublist
  have hMr := hlive r.1
  generalize hM : liveF now r.1 = M at *
  have s2 := evF_sub (most := 4) (p := fun x => decide (x.domain = c.domain)) (M.length + 1) M
  have o2 := ev_out (most := 4) (p := fun x => decide (x.domain = c.domain)) (M.length + 1) M (by omega)
  have m2 := fun d => ev_most (most := 4) (p := fun x => decide (x.domain = c.domain)) (by decide) (n := M.length + 1) (L := M) (d := d) (by omega)
  generalize evF 4 (fun x => decide (x.domain = c.domain)) (M.length + 1) M = M1 at *
  have s3 := evF_sub (most := 12) (p := fun _ => true) (M1.length + 1) M1
  have o3 := ev_out (most := 12) (p := fun _ => true) (M1.length + 1) M1 (by omega)
  have m3 := fun d => ev_most (most := 12) (p := fun _ => true) (by decide) (n := M1.length + 1) (L := M1) (d := d) (by omega)
  have same : (∀ x ∈ M1, x ∈ evF 12 (fun _ => true) (M1.length + 1) M1) → (evF 12 (fun _ => true) (M1.length + 1) M1).length ≤ 12 ∨ True := fun _ => .inr trivial
  have full : evF 12 (fun _ => true) (M1.length + 1) M1 = M1 ∨ (evF 12 (fun _ => true) (M1.length + 1) M1).length = 12 := by
    rcases Nat.lt_or_ge M1.length 12 with q | q
    · left; rw [evF, if_pos (by simp; omega)]
    · right
      have := ev_cnt (most := 12) (p := fun _ => true) (M1.length + 1) M1 (by omega) (by simpa using q)
      simpa using this
  clear same
  generalize evF 12 (fun _ => true) (M1.length + 1) M1 = M2 at *
  have dM : M.Pairwise fun a b => sameK a b = false ∧ a.no ≠ b.no := k1.dis.sublist s1
  have hno : ∀ x ∈ M, ∀ y ∈ M, x ≠ y → x.no ≠ y.no := fun x hx y hy hne => by
    obtain ⟨i, hi⟩ := List.mem_iff_getElem?.1 hx
    obtain ⟨j, hj⟩ := List.mem_iff_getElem?.1 hy
    obtain ⟨hi1, rfl⟩ := List.getElem?_eq_some_iff.1 hi
    obtain ⟨hj1, rfl⟩ := List.getElem?_eq_some_iff.1 hj
    have hp := List.pairwise_iff_getElem.1 dM
    rcases Nat.lt_trichotomy i j with q | q | q
    · exact (hp i j hi1 hj1 q).2
    · subst q; exact absurd rfl hne
    · exact (hp j i hj1 hi1 q).2.symm
  refine ⟨d, d2, fun x hx => ?_, fun x hx hxl hk => d8 x ((hlive L x).2 ⟨hx, hxl⟩) hk, fun hl hall => ?_, fun x hx hxl hk hnot => ?_⟩
  · have hxM := (hMr x).1 ((s3.trans s2).subset hx)
    rcases d6 x hxM.1 with e | ⟨h1, h2⟩
    · exact .inl ⟨e, by rw [← d4, ← e]; exact hxM.2⟩
    · exact .inr ⟨((hlive L x).1 h1).1, h2⟩
  · have hdM : d ∈ M := (hMr d).2 ⟨d1, by rw [d4]; exact hl⟩
    have hless : ∀ x ∈ M, x = d ∨ x.used < d.used := fun x hx => by
      rcases d6 x ((hMr x).1 hx).1 with e | ⟨h1, _⟩
      · exact .inl e
      · exact .inr (by rw [d3]; exact hall x ((hlive L x).1 h1).1)
    exact m3 d (m2 d hdM hless) fun x hx => hless x (s2.subset hx)
  · have hxM : x ∈ M := (hMr x).2 ⟨d7 x ((hlive L x).2 ⟨hx, hxl⟩) hk, hxl⟩
    have fin : ∀ y ∈ M2, lessU y x = false → lessU x y = true := fun y hy hl => by
      have hne := hno x hxM y ((s3.trans s2).subset hy) fun e => hnot (e ▸ hy)
      have := lessU_no.1 hl
      exact lessU_iff.2 (by omega)
    by_cases h1 : x ∈ M1
    · obtain ⟨_, g2, g3⟩ := o3 x h1 hnot
      exact ⟨.inl (by simpa using g2), fun y hy _ => fin y hy (g3 y hy rfl)⟩
    · obtain ⟨g1, g2, g3⟩ := o2 x hxM h1
      have g1 : x.domain = c.domain := of_decide_eq_true g1
      refine ⟨full.elim (fun e => .inr ⟨g1, by rw [e, g1]; exact g2⟩) .inl, fun y hy hyd => fin y hy (g3 y (s3.subset hy) (by rw [hyd, g1]; simp))⟩
end Go.Proofs.YtoehdmbogdpncaaGreatDoor.JarV
end

section
namespace Go.Proofs.YtoehdmbogdpncaaGreatDoor.JarW
open Go.RowKit Mem Abs Scan JarP JarQ JarA JarB JarC JarE JarF JarL JarJ JarK JarM JarS JarT JarH JarR JarU JarV JarD Rdy Globs GoesW

theorem right_of {L : List Cookie} {nx : Int} {c : Cookie} {now : Int} (h : codePut L nx c now = 0) : Rj L nx ∧ badM c = false ∧ nx < 1099511627776 := by
  obtain ⟨h1, _, h3, h4⟩ := codePut_zero h
  have hr : Rj L nx := check_zero.1 h1
  have := hr.nx
  exact ⟨hr, h3, by omega⟩
set_option maxRecDepth 100000 in
set_option maxHeartbeats 4000000 in
theorem right_law {L : List Cookie} {nx : Int} {c : Cookie} {now : Int} : ACallsG Tryz.prog gStr 5 [jarV L nx, c.v, .int .i64 now] (.bool true) := by
  by_cases h : codePut L nx c now = 0
  · have c3 := pPut_v h
    obtain ⟨r1, r2, r3⟩ := right_of h
    obtain ⟨g1, g2, g3, g4⟩ := put_right r1 r2 r3 (now := now)
    have c4 := jcheck_v (L := (putF L nx c now).1) (nx := (putF L nx c now).2)
    rw [check_zero.2 g1] at c4
    have hn := r1.nx
    generalize (putF L nx c now).1 = M at *
    generalize (putF L nx c now).2 = nx2 at *
    have hml : (M.map Cookie.v).length = M.length := List.length_map _
    have hlen := g1.len
    refine funG3 tb_ok Tryz.func5 rfl Tryz.ntmps5 Tryz.results5 rfl fun N => ?_
    repeat' (first | refine zt ?_ | (refine isR ?_; first | refine zo ?_ | refine zk begun_v ?_ | refine zk c3 ?_ | refine zA ?_ | refine zL ?_ | refine zc1 ?_ | refine zc2 ?_ | refine zc4 ?_ | refine zc5 ?_ | refine zc6 ?_ | refine zI ?_ | (refine zs1 ?_ ?_ <;> intro hc) | (refine zs2 ?_ ?_ <;> intro hc) | (refine zs4 ?_ ?_ <;> intro hc) | (refine zs5 ?_ ?_ <;> intro hc) | (refine zs6 ?_ ?_ <;> intro hc)) | refine awp_split rfl (fun hb => ?_) (fun hb => ?_) | refine zr ?_ | exact x_le)
    refine awp_for (fun i => ⟨[(2, .int .i64 now), (3, .fp (V.cells (jarV L nx)) 0), (7, .loc 0 0 0), (9, nV i)], [(0, some (.els TJ 2 [jarV M nx2]))], 1, 57⟩) (fun i => i ≤ M.length) M.length 0 (by exact x_le) (Nat.zero_le _) ?_
    intro i hi
    by_cases hi2 : i < M.length
    · have hx : M[i]? = some M[i] := by simp [hi2]
      have c5 := goesLive_v (c := M[i]) (now := now)
      rw [decide_eq_true (g4 M[i] (List.getElem_mem hi2))] at c5
      generalize M[i] = x at *
      have hm := at_map (f := Cookie.v) hx
      repeat' (first | refine zt ?_ | (refine isR ?_; first | refine zo ?_ | refine zk c5 ?_ | refine zA ?_ | refine zL ?_ | refine zc1 ?_ | refine zc2 ?_ | refine zc4 ?_ | refine zc5 ?_ | refine zc6 ?_ | refine zI ?_ | (refine zs1 ?_ ?_ <;> intro hc) | (refine zs2 ?_ ?_ <;> intro hc) | (refine zs4 ?_ ?_ <;> intro hc) | (refine zs5 ?_ ?_ <;> intro hc) | (refine zs6 ?_ ?_ <;> intro hc)) | refine awp_split rfl (fun hb => ?_) (fun hb => ?_) | refine zr ?_ | exact x_le)
      exact ⟨by omega, hi2, (by exact x_le)⟩
    · obtain rfl : i = M.length := by omega
      repeat' (first | refine zt ?_ | (refine isR ?_; first | refine zo ?_ | refine zk c4 ?_ | refine zA ?_ | refine zL ?_ | refine zc1 ?_ | refine zc2 ?_ | refine zc4 ?_ | refine zc5 ?_ | refine zc6 ?_ | refine zI ?_ | (refine zs1 ?_ ?_ <;> intro hc) | (refine zs2 ?_ ?_ <;> intro hc) | (refine zs4 ?_ ?_ <;> intro hc) | (refine zs5 ?_ ?_ <;> intro hc) | (refine zs6 ?_ ?_ <;> intro hc)) | refine awp_split rfl (fun hb => ?_) (fun hb => ?_) | refine zr ?_ | exact x_le)
      all_goals first | rfl | (exfalso; omega)
  · have c3 := pPutBad_v h
    have c5 := sameNo_v
    generalize codePut L nx c now = q at *
    refine funG3 tb_ok Tryz.func5 rfl Tryz.ntmps5 Tryz.results5 rfl fun N => ?_
    repeat' (first | refine zt ?_ | (refine isR ?_; first | refine zo ?_ | refine zk begun_v ?_ | refine zk c3 ?_ | refine zk c5 ?_ | refine zA ?_ | refine zL ?_ | refine zc1 ?_ | refine zc2 ?_ | refine zc4 ?_ | refine zc5 ?_ | refine zc6 ?_ | refine zI ?_ | (refine zs1 ?_ ?_ <;> intro hc) | (refine zs2 ?_ ?_ <;> intro hc) | (refine zs4 ?_ ?_ <;> intro hc) | (refine zs5 ?_ ?_ <;> intro hc) | (refine zs6 ?_ ?_ <;> intro hc)) | refine awp_split rfl (fun hb => ?_) (fun hb => ?_) | refine zr ?_ | exact x_le)
    all_goals first | rfl | (exfalso; omega)
theorem find_at {L : List Cookie} {c x : Cookie} {i : Nat} (h : L.Pairwise fun a b => sameK a b = false ∧ a.no ≠ b.no) (hx : L[i]? = some x) (hk : sameK x c = true) : L.findIdx? (fun y => sameK y c) = some i := by
  obtain ⟨hi, rfl⟩ := List.getElem?_eq_some_iff.1 hx
  rw [List.findIdx?_eq_some_iff_getElem]
  refine ⟨hi, hk, fun j hj => ?_⟩
  have hp := (List.pairwise_iff_getElem.1 h j i (by omega) hi hj).1
  have : sameK (L[j]'(by omega)) c = false := by
    rw [sameK_comm, ← sameK_left hk, sameK_comm]
    exact hp
  simp [this]
theorem eq_self (x : Cookie) : (!eqF x.v.cells x.v.cells LineB.ekC.flds) = false := by
  have h := LineB.eq_cookie x x
  rw [show eqK LineB.ekC x.v x.v = eqF x.v.cells x.v.cells LineB.ekC.flds from rfl] at h
  rw [h]
  simp
def latB (L : List Cookie) (c : Cookie) (k : Nat) : Bool := (L.take k).all fun x => decide (x.used < c.used)
set_option maxRecDepth 100000 in
set_option maxHeartbeats 4000000 in
theorem puts_law {L : List Cookie} {nx : Int} {c : Cookie} {now : Int} : ACallsG Tryz.prog gStr 6 [jarV L nx, c.v, .int .i64 now] (.bool true) := by
  by_cases h : codePut L nx c now = 0
  · have c3 := pPut_v h
    obtain ⟨r1, r2, r3⟩ := right_of h
    obtain ⟨g1, g2, g3, g4⟩ := put_right r1 r2 r3 (now := now)
    obtain ⟨d, made⟩ := put_made r1 r2 r3 (now := now)
    have hn := r1.nx
    have hlL := r1.len
    generalize (putF L nx c now).1 = E at *
    generalize (putF L nx c now).2 = nx2 at *
    have hml : (L.map Cookie.v).length = L.length := List.length_map _
    have hme : (E.map Cookie.v).length = E.length := List.length_map _
    have hlen := g1.len
    have c5 := find_v (L := E) (nx := nx2) (c := c) (by omega)
    have c6 := find_v (L := L) (nx := nx) (c := c) (by omega)
    have c7 := goesLive_v (c := c) (now := now)
    have f1 : ¬ now < c.expiry → minI (E.findIdx? fun x => sameK x c) < 0 := fun hl => by
      have : E.findIdx? (fun x => sameK x c) = none := by
        rw [List.findIdx?_eq_none_iff]
        intro x hx
        rcases made.all x hx with ⟨_, q⟩ | ⟨_, q⟩
        · exact absurd q hl
        · exact q
      rw [this]; decide
    have f2 : now < c.expiry → latB L c L.length = true → 0 ≤ minI (E.findIdx? fun x => sameK x c) := fun hl hla => by
      have hd := made.there hl fun x hx => by
        unfold latB at hla
        rw [List.take_length, List.all_eq_true] at hla
        exact of_decide_eq_true (hla x hx)
      obtain ⟨i, hi⟩ := List.mem_iff_getElem?.1 hd
      rw [find_at g1.dis hi made.key]
      exact Int.natCast_nonneg i
    have f3 : (minI (E.findIdx? fun x => sameK x c) < 0 ∨ minI (L.findIdx? fun x => sameK x c) < 0) ∨ ∃ (a b : Nat) (x y : Cookie), minI (E.findIdx? fun x => sameK x c) = (a : Int) ∧ minI (L.findIdx? fun x => sameK x c) = (b : Int) ∧ E[a]? = some x ∧ L[b]? = some y ∧ (now < y.expiry → x.no = y.no ∧ x.created = y.created) := by
      cases hE : E.findIdx? (fun x => sameK x c) with
      | none => exact .inl (.inl (by decide))
      | some a =>
        cases hL : L.findIdx? (fun x => sameK x c) with
        | none => exact .inl (.inr (by decide))
        | some b =>
          obtain ⟨ha, ka, _⟩ := List.findIdx?_eq_some_iff_getElem.1 hE
          obtain ⟨hb, kb, _⟩ := List.findIdx?_eq_some_iff_getElem.1 hL
          refine .inr ⟨a, b, E[a], L[b], rfl, rfl, by simp [ha], by simp [hb], fun hl => ?_⟩
          rcases made.all E[a] (List.getElem_mem ha) with ⟨q, _⟩ | ⟨_, q⟩
          · rw [q]; exact made.kept L[b] (List.getElem_mem hb) hl kb
          · rw [q] at ka; cases ka
    have f4 : ∀ (i : Nat) (x : Cookie), E[i]? = some x → (i : Int) ≠ minI (E.findIdx? fun y => sameK y c) → ∃ k : Nat, L.findIdx? (fun y => sameK y x) = some k ∧ L[k]? = some x := fun i x hx hne => by
      have hk : sameK x c = false := by
        cases q : sameK x c with
        | false => rfl
        | true => exact absurd (by rw [find_at g1.dis hx q]; rfl) hne
      rcases made.all x (List.mem_of_getElem? hx) with ⟨q, _⟩ | ⟨q, _⟩
      · rw [q, made.key] at hk; cases hk
      · obtain ⟨k, hk2⟩ := List.mem_iff_getElem?.1 q
        exact ⟨k, find_at r1.dis hk2 (sameK_key.2 ⟨rfl, rfl, rfl⟩), hk2⟩
    generalize minI (E.findIdx? fun x => sameK x c) = A at *
    generalize minI (L.findIdx? fun x => sameK x c) = W at *
    clear made g4 r2
    refine funG3 tb_ok Tryz.func6 rfl Tryz.ntmps6 Tryz.results6 rfl fun N => ?_
    repeat' (first | refine zt ?_ | (refine isR ?_; first | refine zo ?_ | refine zk begun_v ?_ | refine zk c3 ?_ | refine zk c5 ?_ | refine zk c6 ?_ | refine zA ?_ | refine zL ?_ | refine zc1 ?_ | refine zc4 ?_ | refine zc6 ?_ | refine zI ?_ | (refine zs1 ?_ ?_ <;> intro hc) | (refine zs4 ?_ ?_ <;> intro hc) | (refine zs6 ?_ ?_ <;> intro hc)) | refine awp_split rfl (fun hb => ?_) (fun hb => ?_) | refine zr ?_ | exact x_le)
    refine awp_for (fun k => ⟨[(2, .int .i64 now), (3, .fp (V.cells (jarV L nx)) 0), (4, .fp c.v.cells 0), (7, .loc 0 0 0), (9, .int .i64 A), (10, .int .i64 W), (11, .bool (latB L c k)), (12, nV k)], [(0, some (.els TJ 2 [jarV E nx2]))], 1, 150⟩) (fun k => k ≤ L.length) L.length 0 (by exact x_le) (Nat.zero_le _) ?_
    intro k hk
    by_cases hk2 : k < L.length
    · have hx : L[k]? = some L[k] := by simp [hk2]
      have hla : latB L c (k + 1) = (latB L c k && decide ((L[k]).used < c.used)) := by
        unfold latB
        rw [List.take_add_one, hx, List.all_append]
        simp
      generalize L[k] = x at *
      have hm := at_map (f := Cookie.v) hx
      generalize latB L c (k + 1) = b2 at *
      generalize latB L c k = b1 at *
      subst hla
      cases b1
      · skip
        repeat' (first | refine zt ?_ | (refine isR ?_; first | refine zo ?_ | refine zA ?_ | refine zL ?_ | refine zc1 ?_ | refine zc4 ?_ | refine zc6 ?_ | refine zI ?_ | (refine zs1 ?_ ?_ <;> intro hc) | (refine zs4 ?_ ?_ <;> intro hc) | (refine zs6 ?_ ?_ <;> intro hc)) | refine awp_split rfl (fun hb => ?_) (fun hb => ?_) | refine zr ?_ | exact x_le)
        exact ⟨by omega, hk2, (by exact x_le)⟩
      · by_cases hu : x.used < c.used
        · rw [decide_eq_true hu]
          repeat' (first | refine zt ?_ | (refine isR ?_; first | refine zo ?_ | refine zA ?_ | refine zL ?_ | refine zc1 ?_ | refine zc4 ?_ | refine zc6 ?_ | refine zI ?_ | (refine zs1 ?_ ?_ <;> intro hc) | (refine zs4 ?_ ?_ <;> intro hc) | (refine zs6 ?_ ?_ <;> intro hc)) | refine awp_split rfl (fun hb => ?_) (fun hb => ?_) | refine zr ?_ | exact x_le)
          exact ⟨by omega, hk2, (by exact x_le)⟩
        · rw [decide_eq_false hu]
          repeat' (first | refine zt ?_ | (refine isR ?_; first | refine zo ?_ | refine zA ?_ | refine zL ?_ | refine zc1 ?_ | refine zc4 ?_ | refine zc6 ?_ | refine zI ?_ | (refine zs1 ?_ ?_ <;> intro hc) | (refine zs4 ?_ ?_ <;> intro hc) | (refine zs6 ?_ ?_ <;> intro hc)) | refine awp_split rfl (fun hb => ?_) (fun hb => ?_) | refine zr ?_ | exact x_le)
          exact ⟨by omega, hk2, (by exact x_le)⟩
    · obtain rfl : k = L.length := by omega
      generalize latB L c L.length = b1 at *
      generalize hlv : decide (now < c.expiry) = lv at *
      have f1 : lv = false → A < 0 := fun q => f1 (by rw [q] at hlv; exact of_decide_eq_false hlv)
      have f2 : lv = true → b1 = true → 0 ≤ A := fun q => f2 (by rw [q] at hlv; exact of_decide_eq_true hlv)
      have key : (lv = false ∧ A < 0) ∨ (lv = true ∧ b1 = false ∧ (A < 0 ∨ W < 0)) ∨ (lv = true ∧ b1 = true ∧ 0 ≤ A ∧ W < 0) ∨
          (lv = true ∧ 0 ≤ A ∧ 0 ≤ W ∧ ∃ x y, (E.map Cookie.v)[A.toNat]? = some (Cookie.v x) ∧ (L.map Cookie.v)[W.toNat]? = some (Cookie.v y) ∧ ((ACalls Tryz.prog 18 [y.v, .int .i64 now] (.bool true) ∧ x.no = y.no ∧ x.created = y.created) ∨ ACalls Tryz.prog 18 [y.v, .int .i64 now] (.bool false))) := by
        cases lv
        · exact .inl ⟨rfl, f1 rfl⟩
        · rcases f3 with f3 | ⟨a, b, x, y, rfl, rfl, hx, hy, hxy⟩
          · cases b1
            · exact .inr (.inl ⟨rfl, rfl, f3⟩)
            · exact .inr (.inr (.inl ⟨rfl, rfl, f2 rfl rfl, by have := f2 rfl rfl; omega⟩))
          · refine .inr (.inr (.inr ⟨rfl, Int.natCast_nonneg _, Int.natCast_nonneg _, x, y, at_map (f := Cookie.v) hx, at_map (f := Cookie.v) hy, ?_⟩))
            have c9 := goesLive_v (c := y) (now := now)
            by_cases hl : now < y.expiry
            · rw [decide_eq_true hl] at c9
              exact .inl ⟨c9, hxy hl⟩
            · rw [decide_eq_false hl] at c9
              exact .inr c9
      have c8 := fun x : Cookie => find_v (L := L) (nx := nx) (c := x) (by omega)
      clear f1 f2 f3 hlv
      rcases key with ⟨rfl, f1⟩ | ⟨rfl, rfl, f3⟩ | ⟨rfl, rfl, f2, f3⟩ | ⟨rfl, f2, f3, x, y, hmx, hmy, ⟨ck, e1, e2⟩ | ck⟩
      all_goals try cases b1
      all_goals
        repeat' (first | refine zt ?_ | (refine isR ?_; first | refine zo ?_ | refine zk c7 ?_ | refine zk ck ?_ | refine zA ?_ | refine zL ?_ | refine zc1 ?_ | refine zc4 ?_ | refine zc6 ?_ | refine zI ?_ | (refine zs1 ?_ ?_ <;> intro hc) | (refine zs4 ?_ ?_ <;> intro hc) | (refine zs6 ?_ ?_ <;> intro hc)) | refine awp_split rfl (fun hb => ?_) (fun hb => ?_) | refine zr ?_ | exact x_le)
      all_goals try (exfalso; omega)
      all_goals
        refine awp_for (fun i => ⟨[(3, .fp (V.cells (jarV L nx)) 0), (7, .loc 0 0 0), (9, .int .i64 A), (13, nV i)], [(0, some (.els TJ 2 [jarV E nx2]))], 1, 150⟩) (fun i => i ≤ E.length) E.length 0 (by exact x_le) (Nat.zero_le _) ?_
        intro i hi
        by_cases hi2 : i < E.length
        · have hx : E[i]? = some E[i] := by simp [hi2]
          have hf := f4 i E[i] hx
          have c10 := c8 E[i]
          generalize E[i] = z at *
          have hm := at_map (f := Cookie.v) hx
          by_cases hne : (i : Int) = A
          · generalize L.findIdx? (fun y => sameK y z) = o at *
            repeat' (first | refine zt ?_ | (refine isR ?_; first | refine zo ?_ | refine zk c10 ?_ | refine zA ?_ | refine zL ?_ | refine zc1 ?_ | refine zc4 ?_ | refine zc6 ?_ | refine zI ?_ | (refine zs1 ?_ ?_ <;> intro hc) | (refine zs4 ?_ ?_ <;> intro hc) | (refine zs6 ?_ ?_ <;> intro hc)) | refine awp_split rfl (fun hb => ?_) (fun hb => ?_) | refine zr ?_ | exact x_le)
            all_goals first | exact ⟨by omega, hi2, (by exact x_le)⟩ | (exfalso; omega)
          · obtain ⟨k, hk, hk2⟩ := hf hne
            rw [hk] at c10
            change ACalls _ _ _ (.int .i64 (k : Int)) at c10
            have hmk := at_map (f := Cookie.v) hk2
            have hq := eq_self z
            repeat' (first | refine zt ?_ | (refine isR ?_; first | refine zo ?_ | refine zk c10 ?_ | refine zA ?_ | refine zL ?_ | refine zc1 ?_ | refine zc4 ?_ | refine zc6 ?_ | refine zI ?_ | (refine zs1 ?_ ?_ <;> intro hc) | (refine zs4 ?_ ?_ <;> intro hc) | (refine zs6 ?_ ?_ <;> intro hc)) | refine awp_split rfl (fun hb => ?_) (fun hb => ?_) | refine zr ?_ | exact x_le)
            all_goals first | exact ⟨by omega, hi2, (by exact x_le)⟩ | (exfalso; omega)
        · obtain rfl : i = E.length := by omega
          repeat' (first | refine zt ?_ | (refine isR ?_; first | refine zo ?_ | refine zA ?_ | refine zL ?_ | refine zc1 ?_ | refine zc4 ?_ | refine zc6 ?_ | refine zI ?_ | (refine zs1 ?_ ?_ <;> intro hc) | (refine zs4 ?_ ?_ <;> intro hc) | (refine zs6 ?_ ?_ <;> intro hc)) | refine awp_split rfl (fun hb => ?_) (fun hb => ?_) | refine zr ?_ | exact x_le)
          all_goals first | rfl | (exfalso; omega)
  · have c3 := pPutBad_v h
    generalize codePut L nx c now = q at *
    refine funG3 tb_ok Tryz.func6 rfl Tryz.ntmps6 Tryz.results6 rfl fun N => ?_
    repeat' (first | refine zt ?_ | (refine isR ?_; first | refine zo ?_ | refine zk begun_v ?_ | refine zk c3 ?_ | refine zA ?_ | refine zL ?_ | refine zc1 ?_ | refine zc4 ?_ | refine zc6 ?_ | refine zI ?_ | (refine zs1 ?_ ?_ <;> intro hc) | (refine zs4 ?_ ?_ <;> intro hc) | (refine zs6 ?_ ?_ <;> intro hc)) | refine awp_split rfl (fun hb => ?_) (fun hb => ?_) | refine zr ?_ | exact x_le)
    all_goals first | rfl | (exfalso; omega)
end Go.Proofs.YtoehdmbogdpncaaGreatDoor.JarW
end
