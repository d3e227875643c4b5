/- Texts of the proof, joined: JarY. -/
import Derived.Test.YtoehdmbogdpncaaGreatDoorG19
import Derived.Test.YtoehdmbogdpncaaGreatDoorG8
section
namespace Go.Proofs.YtoehdmbogdpncaaGreatDoor.JarY
open Go.RowKit Mem Abs Scan JarP JarQ JarA JarB JarC JarE JarF JarI JarL JarJ JarK JarM JarS JarT JarH JarR JarU JarV JarD JarW Rdy Globs GoesW SortP SortW

theorem told_mem (L : List Cookie) (x : Cookie) : x ∈ sortF ckLt L ↔ x ∈ L := by
  obtain ⟨M, h1, h2, _⟩ := sort_spec LineP.ck_weak L
  rw [← h1, List.mem_map]
  constructor
  · rintro ⟨p, hp, rfl⟩
    have := h2.mem_iff.1 hp
    rw [List.mem_zipIdx_iff_getElem?] at this
    exact List.mem_of_getElem? this
  · intro hx
    obtain ⟨i, hi⟩ := List.mem_iff_getElem?.1 hx
    exact ⟨(x, i), h2.mem_iff.2 (by rw [List.mem_zipIdx_iff_getElem?]; exact hi), rfl⟩
theorem ready_host {f : From} {now : Int} (h : readyF f now = 0) : f.host.length ≤ 4398046511104 := by
  unfold readyF at h
  split at h
  · rename_i q
    have e := q.1
    unfold hostOk at e
    have e := of_decide_eq_true e
    unfold HostP.canonF at e
    split at e
    · exact absurd (congrArg Prod.snd e) (by simp)
    · omega
  · cases h
/-- What Get answers, by the program. -/
theorem get_v {L : List Cookie} {nx now : Int} {f : From} (hd : ∀ c ∈ L, c.domain.length ≤ 140737488355327) (h0 : checkJ L nx = 0) (h1 : readyF f now = 0) :
    ACallsG Tryz.prog gStr 15 [jarV L nx, f.v, .int .i64 now] (.tup [jarV (L.map (useF (fun c => goesF c f now) now)) nx, .fro ((sortF ckLt ((L.filter fun c => goesF c f now).map fun c => { c with used := now })).map Cookie.v), .int .i64 0]) := by
  have c1 := jcheck_v (L := L) (nx := nx)
  rw [h0] at c1
  have c2 := ready_v (f := f) (now := now)
  rw [h1] at c2
  have hl := (check_zero.1 h0).len
  refine pGet_v c1 c2 (fun c hc => goes_v (hd c hc) (ready_host h1)) hl (LineA.lineSort_v ?_)
  have := List.length_filter_le (fun c => goesF c f now) L
  rw [List.length_map]
  omega
theorem getOf_at {L : List Cookie} {nx now : Int} {f : From} (hd : ∀ c ∈ L, c.domain.length ≤ 140737488355327) (h0 : checkJ L nx = 0) (h1 : readyF f now = 0) :
    ACalls Tryz.prog 16 [jarV L nx, f.v, .int .i64 now] (.tup [jarV (L.map (useF (fun c => goesF c f now) now)) nx, .fro ((sortF ckLt ((L.filter fun c => goesF c f now).map fun c => { c with used := now })).map Cookie.v), .int .i64 0]) := by
  have c1 := jarCheck_v (L := L) (nx := nx)
  rw [h0] at c1
  have c2 := readyOf_v (f := f) (now := now)
  rw [h1] at c2
  have hl := (check_zero.1 h0).len
  refine getOf_v c1 c2 (fun c hc => goesOf_v (hd c hc) (ready_host h1)) hl (LineB.sortOf_v ?_)
  have := List.length_filter_le (fun c => goesF c f now) L
  rw [List.length_map]
  omega
/-- What is at fault. -/
def codeGet (L : List Cookie) (nx : Int) (f : From) (now : Int) : Int := if checkJ L nx ≠ 0 then (checkJ L nx : Nat) else readyF f now
theorem getBad_v {L : List Cookie} {nx now : Int} {f : From} (h : codeGet L nx f now ≠ 0) : ACalls Tryz.prog 15 [jarV L nx, f.v, .int .i64 now] (.tup [noJ, .nils, .int .i64 (codeGet L nx f now)]) := by
  have c1 := jcheck_v (L := L) (nx := nx)
  unfold codeGet at h ⊢
  by_cases h0 : checkJ L nx = 0
  · rw [if_neg (by rw [h0]; simp)] at h ⊢
    rw [h0] at c1
    exact pGetBad2_v c1 ready_v h
  · rw [if_pos h0] at h ⊢
    exact pGetBad1_v c1 h
theorem getOfBad_v {L : List Cookie} {nx now : Int} {f : From} (h : codeGet L nx f now ≠ 0) : ACalls Tryz.prog 16 [jarV L nx, f.v, .int .i64 now] (.tup [noJ, .nils, .int .i64 (codeGet L nx f now)]) := by
  have c1 := jarCheck_v (L := L) (nx := nx)
  unfold codeGet at h ⊢
  by_cases h0 : checkJ L nx = 0
  · rw [if_neg (by rw [h0]; simp)] at h ⊢
    rw [h0] at c1
    exact getBad2_v c1 readyOf_v h
  · rw [if_pos h0] at h ⊢
    exact getBad1_v c1 h
theorem codeGet_zero {L : List Cookie} {nx now : Int} {f : From} (h : codeGet L nx f now = 0) : checkJ L nx = 0 ∧ readyF f now = 0 := by
  unfold codeGet at h
  by_cases h0 : checkJ L nx = 0
  · rw [if_neg (by rw [h0]; simp)] at h; exact ⟨h0, h⟩
  · rw [if_pos h0] at h; omega
theorem sameC_v {L : List Cookie} : ACalls Tryz.prog 17 [.fro (L.map Cookie.v), .fro (L.map Cookie.v)] (.bool true) := by
  have := LineB.sameCookies_v (L := L) (K := L)
  simpa using this
theorem sameNil_v : ACalls Tryz.prog 17 [.nils, .nils] (.bool true) := (sameC_v (L := [])).nf rfl
set_option maxRecDepth 100000 in
set_option maxHeartbeats 4000000 in
theorem gets_law {L : List Cookie} {nx now : Int} {f : From} (hd : ∀ c ∈ L, c.domain.length ≤ 140737488355327) : ACallsG Tryz.prog gStr 4 [jarV L nx, f.v, .int .i64 now] (.bool true) := by
  by_cases h : codeGet L nx f now = 0
  · obtain ⟨h0, h1⟩ := codeGet_zero h
    have c3 := get_v hd h0 h1
    have c4 := getOf_at hd h0 h1
    have c5 := same_v (L := L.map (useF (fun c => goesF c f now) now)) (nx := nx)
    have c6 := sameC_v (L := sortF ckLt ((L.filter fun c => goesF c f now).map fun c => { c with used := now }))
    generalize L.map (useF (fun c => goesF c f now) now) = A at *
    generalize sortF ckLt ((L.filter fun c => goesF c f now).map fun c => { c with used := now }) = G at *
    refine funG3 tb_ok Tryz.func4 rfl Tryz.ntmps4 Tryz.results4 rfl fun N => ?_
    repeat' (first | refine zt ?_ | (refine isR ?_; first | refine zo ?_ | refine zk begun_v ?_ | refine zk c3 ?_ | refine zk c4 ?_ | refine zk c5 ?_ | refine zk c6 ?_ | refine zc5 ?_ | (refine zs5 ?_ ?_ <;> intro hc)) | refine awp_split rfl (fun hb => ?_) (fun hb => ?_) | refine zr ?_ | exact x_le)
    all_goals first | rfl | (exfalso; omega)
  · have c3 := getBad_v h
    have c4 := getOfBad_v h
    have c5 := sameNo_v
    have c6 := sameNil_v
    generalize codeGet L nx f now = q at *
    refine funG3 tb_ok Tryz.func4 rfl Tryz.ntmps4 Tryz.results4 rfl fun N => ?_
    repeat' (first | refine zt ?_ | (refine isR ?_; first | refine zo ?_ | refine zk begun_v ?_ | refine zk c3 ?_ | refine zk c4 ?_ | refine zk c5 ?_ | refine zk c6 ?_ | refine zc5 ?_ | (refine zs5 ?_ ?_ <;> intro hc)) | refine awp_split rfl (fun hb => ?_) (fun hb => ?_) | refine zr ?_ | exact x_le)
    all_goals first | rfl | (exfalso; omega)
theorem eq_selfT (x : Cookie) : eqF x.v.cells x.v.cells LineB.ekC.flds = true := by
  have h := JarW.eq_self x
  simpa using h
theorem use_key {g : Cookie → Bool} {now : Int} (x y : Cookie) : sameK (useF g now x) y = sameK x y := by
  unfold useF
  split <;> rfl
/-- A jar stays right when it is asked. -/
theorem use_right {L : List Cookie} {nx now : Int} {g : Cookie → Bool} (h : Rj L nx) (hn : isJ now = true) : Rj (L.map (useF g now)) nx where
  len := by rw [List.length_map]; exact h.len
  mom c hc := by
    obtain ⟨x, hx, rfl⟩ := List.mem_map.1 hc
    have := h.mom x hx
    unfold useF
    split
    · unfold badM at this ⊢
      dsimp only
      rw [hn]
      cases hq : isJ x.created with
      | true => rfl
      | false => rw [hq] at this; cases this
    · exact this
  no c hc := by
    obtain ⟨x, hx, rfl⟩ := List.mem_map.1 hc
    have := h.no x hx
    unfold useF
    split <;> exact this
  dis := by
    rw [List.pairwise_map]
    refine h.dis.imp fun {a b} hab => ?_
    rw [use_key, sameK_comm, use_key, sameK_comm]
    refine ⟨hab.1, ?_⟩
    unfold useF
    split <;> split <;> exact hab.2
  per d := by
    rw [List.countP_map]
    have : ((fun c : Cookie => decide (c.domain = d)) ∘ useF g now) = fun c => decide (c.domain = d) := by
      funext x
      unfold useF
      dsimp only [Function.comp]
      split <;> rfl
    rw [this]
    exact h.per d
  nx := h.nx
theorem ready_now {f : From} {now : Int} (h : readyF f now = 0) : isJ now = true := by
  unfold readyF at h
  split at h
  · split at h
    · assumption
    · cases h
  · cases h
set_option maxRecDepth 100000 in
set_option maxHeartbeats 4000000 in
theorem only_law {L : List Cookie} {nx now i : Int} {f : From} (hd : ∀ c ∈ L, c.domain.length ≤ 140737488355327) : ACallsG Tryz.prog gStr 8 [jarV L nx, f.v, .int .i64 now, .int .i64 i] (.bool true) := by
  by_cases h : codeGet L nx f now = 0
  · obtain ⟨h0, h1⟩ := codeGet_zero h
    have c3 := get_v hd h0 h1
    have hf := ready_host h1
    have hr := check_zero.1 h0
    have hru := use_right (g := fun c => goesF c f now) hr (ready_now h1)
    have hg : ∀ c : Cookie, goesF (useF (fun c => goesF c f now) now c) f now = goesF c f now := fun c => by
      unfold useF
      split <;> rfl
    have hdu : ∀ c ∈ L.map (useF (fun c => goesF c f now) now), c.domain.length ≤ 140737488355327 := fun c hc => by
      obtain ⟨x, hx, rfl⟩ := List.mem_map.1 hc
      have := hd x hx
      unfold useF
      split <;> exact this
    have c4 := get_v hdu (check_zero.2 hru) h1
    have e1 : (L.map (useF (fun c => goesF c f now) now)).map (useF (fun c => goesF c f now) now) = L.map (useF (fun c => goesF c f now) now) := by
      rw [List.map_map]
      refine List.map_congr_left fun c _ => ?_
      show useF _ now (useF _ now c) = _
      have := hg c
      unfold useF at this ⊢
      by_cases q : goesF c f now = true
      · simp only [if_pos q] at this ⊢
        rw [if_pos (this.trans q)]
      · simp only [if_neg q]
    have e2 : ((L.map (useF (fun c => goesF c f now) now)).filter fun c => goesF c f now).map (fun c => { c with used := now }) = (L.filter fun c => goesF c f now).map (fun c => { c with used := now }) := by
      clear hdu hru hr c3 c4 hd e1 h0 h
      induction L with
      | nil => rfl
      | cons c L ih =>
        rw [List.map_cons, List.filter_cons, List.filter_cons, hg c]
        by_cases q : goesF c f now = true
        · rw [if_pos q, if_pos q, List.map_cons, List.map_cons, ih]
          unfold useF
          rw [if_pos q]
        · rw [if_neg q, if_neg q, ih]
    rw [e1, e2] at c4
    have c5 := same_v (L := L.map (useF (fun c => goesF c f now) now)) (nx := nx)
    have c6 := sameC_v (L := sortF ckLt ((L.filter fun c => goesF c f now).map fun c => { c with used := now }))
    have c7 := jcheck_v (L := L.map (useF (fun c => goesF c f now) now)) (nx := nx)
    rw [check_zero.2 hru] at c7
    have hin := told_mem ((L.filter fun c => goesF c f now).map fun c => { c with used := now })
    have htold : ∀ x ∈ L, (sortF ckLt ((L.filter fun c => goesF c f now).map fun c => { c with used := now })).any (fun y => sameK y x) = goesF x f now := fun x hx => by
      rw [Bool.eq_iff_iff, List.any_eq_true]
      constructor
      · rintro ⟨y, hy, hk⟩
        obtain ⟨z, hz, rfl⟩ := List.mem_map.1 ((hin y).1 hy)
        obtain ⟨hz, hgz⟩ := List.mem_filter.1 hz
        have hzx : sameK z x = true := hk
        obtain ⟨a, ha⟩ := List.mem_iff_getElem?.1 hx
        obtain ⟨b, hb⟩ := List.mem_iff_getElem?.1 hz
        have h1 := find_at hr.dis ha (c := x) (sameK_key.2 ⟨rfl, rfl, rfl⟩)
        have h2 := find_at hr.dis hb hzx
        rw [h1] at h2
        cases h2
        rw [ha] at hb
        cases hb
        exact hgz
      · intro hgx
        exact ⟨{ x with used := now }, (hin _).2 (List.mem_map.2 ⟨x, List.mem_filter.2 ⟨hx, hgx⟩, rfl⟩), sameK_key.2 ⟨rfl, rfl, rfl⟩⟩
    have hgl : (sortF ckLt ((L.filter fun c => goesF c f now).map fun c => { c with used := now })).length ≤ 12 := by
      rw [sortF_len, List.length_map]
      exact Nat.le_trans (List.length_filter_le _ _) hr.len
    have hlen := hr.len
    have hml : (L.map Cookie.v).length = L.length := List.length_map _
    have hal : (L.map (useF (fun c => goesF c f now) now)).length = L.length := List.length_map _
    have hax : ∀ (j : Nat) (x : Cookie), L[j]? = some x → (L.map (useF (fun c => goesF c f now) now))[j]? = some (useF (fun c => goesF c f now) now x) := fun j x hj => by rw [List.getElem?_map, hj]; rfl
    clear hru hg hdu e1 e2 hin h0 h1
    generalize L.map (useF (fun c => goesF c f now) now) = A at *
    generalize sortF ckLt ((L.filter fun c => goesF c f now).map fun c => { c with used := now }) = G at *
    have hma : (A.map Cookie.v).length = A.length := List.length_map _
    have hmg : (G.map Cookie.v).length = G.length := List.length_map _
    by_cases hi : 0 ≤ i ∧ i < (L.length : Int)
    · obtain ⟨i1, i2⟩ := hi
      have hx : L[i.toNat]? = some (L[i.toNat]'(by omega)) := by simp [show i.toNat < L.length by omega]
      have hxm := List.getElem_mem (show i.toNat < L.length by omega)
      have c8 := goes_v (c := L[i.toNat]'(by omega)) (f := f) (now := now) (hd _ hxm) hf
      have htold := htold _ hxm
      have hax := hax _ _ hx
      generalize L[i.toNat]'(by omega) = x at *
      have hmx := at_map (f := Cookie.v) hx
      have hmax := at_map (f := Cookie.v) hax
      have hq := eq_selfT x
      refine funG4 tb_ok Tryz.func8 rfl Tryz.ntmps8 Tryz.results8 rfl fun N => ?_
      repeat' (first | refine zt ?_ | (refine isR ?_; first | refine zo ?_ | refine zk begun_v ?_ | refine zk c3 ?_ | refine zk c4 ?_ | refine zk c5 ?_ | refine zk c6 ?_ | refine zk c7 ?_ | refine zA ?_ | refine zL ?_ | refine zc1 ?_ | refine zc4 ?_ | refine zc5 ?_ | refine zc6 ?_ | refine zI ?_ | (refine zs1 ?_ ?_ <;> intro hc) | (refine zs4 ?_ ?_ <;> intro hc) | (refine zs5 ?_ ?_ <;> intro hc) | (refine zs6 ?_ ?_ <;> intro hc)) | refine awp_split rfl (fun hb => ?_) (fun hb => ?_) | refine zr ?_ | exact x_le)
      refine awp_for (fun k => ⟨[(2, .int .i64 now), (3, .int .i64 i), (4, .fp (V.cells (jarV L nx)) 0), (5, .fp f.v.cells 0), (9, .loc 0 0 0), (10, .fro (G.map Cookie.v)), (15, .bool ((G.take k).any fun y => sameK y x)), (16, nV k)], [(0, some (.els TJ 2 [jarV A nx]))], 1, 151⟩) (fun k => k ≤ G.length) G.length 0 (by exact x_le) (Nat.zero_le _) ?_
      intro k hk
      by_cases hk2 : k < G.length
      · have hy : G[k]? = some G[k] := by simp [hk2]
        have hon : (G.take (k + 1)).any (fun y => sameK y x) = ((G.take k).any (fun y => sameK y x) || sameK G[k] x) := by
          rw [List.take_add_one, hy, List.any_append]
          simp
        have c9 := sameKey_v (a := G[k]) (b := x)
        generalize G[k] = y at *
        have hmy := at_map (f := Cookie.v) hy
        generalize (G.take (k + 1)).any (fun y => sameK y x) = b2 at *
        generalize (G.take k).any (fun y => sameK y x) = b1 at *
        generalize sameK y x = b3 at *
        subst hon
        cases b1
        all_goals
          repeat' (first | refine zt ?_ | (refine isR ?_; first | refine zo ?_ | refine zk c9 ?_ | refine zA ?_ | refine zL ?_ | refine zc1 ?_ | refine zc4 ?_ | refine zc5 ?_ | refine zc6 ?_ | refine zI ?_ | (refine zs1 ?_ ?_ <;> intro hc) | (refine zs4 ?_ ?_ <;> intro hc) | (refine zs5 ?_ ?_ <;> intro hc) | (refine zs6 ?_ ?_ <;> intro hc)) | refine awp_split rfl (fun hb => ?_) (fun hb => ?_) | refine zr ?_ | exact x_le)
          exact ⟨by omega, hk2, (by exact x_le)⟩
      · obtain rfl : k = G.length := by omega
        rw [List.take_length, htold]
        unfold useF at hmax
        cases hgx : goesF x f now with
        | true =>
          rw [hgx] at c8
          rw [if_pos hgx] at hmax
          repeat' (first | refine zt ?_ | (refine isR ?_; first | refine zo ?_ | refine zk c8 ?_ | refine zA ?_ | refine zL ?_ | refine zc1 ?_ | refine zc4 ?_ | refine zc5 ?_ | refine zc6 ?_ | refine zI ?_ | (refine zs1 ?_ ?_ <;> intro hc) | (refine zs4 ?_ ?_ <;> intro hc) | (refine zs5 ?_ ?_ <;> intro hc) | (refine zs6 ?_ ?_ <;> intro hc)) | refine awp_split rfl (fun hb => ?_) (fun hb => ?_) | refine zr ?_ | exact x_le)
          all_goals first | rfl | (exfalso; omega)
        | false =>
          rw [hgx] at c8
          rw [if_neg (by show ¬ goesF x f now = true; rw [hgx]; simp)] at hmax
          repeat' (first | refine zt ?_ | (refine isR ?_; first | refine zo ?_ | refine zk c8 ?_ | refine zA ?_ | refine zL ?_ | refine zc1 ?_ | refine zc4 ?_ | refine zc5 ?_ | refine zc6 ?_ | refine zI ?_ | (refine zs1 ?_ ?_ <;> intro hc) | (refine zs4 ?_ ?_ <;> intro hc) | (refine zs5 ?_ ?_ <;> intro hc) | (refine zs6 ?_ ?_ <;> intro hc)) | refine awp_split rfl (fun hb => ?_) (fun hb => ?_) | refine zr ?_ | exact x_le)
          all_goals first | rfl | (exfalso; omega)
    · have hi : i < 0 ∨ (L.length : Int) ≤ i := by omega
      clear htold hax
      refine funG4 tb_ok Tryz.func8 rfl Tryz.ntmps8 Tryz.results8 rfl fun N => ?_
      repeat' (first | refine zt ?_ | (refine isR ?_; first | refine zo ?_ | refine zk begun_v ?_ | refine zk c3 ?_ | refine zk c4 ?_ | refine zk c5 ?_ | refine zk c6 ?_ | refine zk c7 ?_ | refine zA ?_ | refine zL ?_ | refine zc1 ?_ | refine zc4 ?_ | refine zc5 ?_ | refine zc6 ?_ | refine zI ?_ | (refine zs1 ?_ ?_ <;> intro hc) | (refine zs4 ?_ ?_ <;> intro hc) | (refine zs5 ?_ ?_ <;> intro hc) | (refine zs6 ?_ ?_ <;> intro hc)) | refine awp_split rfl (fun hb => ?_) (fun hb => ?_) | refine zr ?_ | exact x_le)
      all_goals first | rfl | (exfalso; omega)
  · have c3 := getBad_v h
    have c5 := sameNo_v
    generalize codeGet L nx f now = q at *
    refine funG4 tb_ok Tryz.func8 rfl Tryz.ntmps8 Tryz.results8 rfl fun N => ?_
    repeat' (first | refine zt ?_ | (refine isR ?_; first | refine zo ?_ | refine zk begun_v ?_ | refine zk c3 ?_ | refine zk c5 ?_ | refine zA ?_ | refine zL ?_ | refine zc1 ?_ | refine zc4 ?_ | refine zc5 ?_ | refine zc6 ?_ | refine zI ?_ | (refine zs1 ?_ ?_ <;> intro hc) | (refine zs4 ?_ ?_ <;> intro hc) | (refine zs5 ?_ ?_ <;> intro hc) | (refine zs6 ?_ ?_ <;> intro hc)) | refine awp_split rfl (fun hb => ?_) (fun hb => ?_) | refine zr ?_ | exact x_le)
    all_goals first | rfl | (exfalso; omega)
end Go.Proofs.YtoehdmbogdpncaaGreatDoor.JarY
end
