/- Texts of the proof, joined: LineB, JarU, RjP, PurA, Bld. -/
import Derived.Test.YtepnalbefjicgaaGreatDoorG10
import Derived.Test.YtepnalbefjicgaaGreatDoorG19
import Derived.Test.YtepnalbefjicgaaGreatDoorG13
import Derived.Test.YtepnalbefjicgaaGreatDoorG15
import Derived.Test.YtepnalbefjicgaaGreatDoorG12
import Derived.Test.YtepnalbefjicgaaGreatDoorG8
section
namespace Go.Proofs.YtepnalbefjicgaaGreatDoor.LineB
open Go.RowKit Mem Abs TreeW SortP SortW SortM SortN LineA LineP

instance : DecidableEq Attr := fun a b => if h : a.name = b.name ∧ a.value = b.value then isTrue (by cases a; cases b; cases h.1; cases h.2; rfl) else isFalse (fun e => h (by rw [e]; exact ⟨rfl, rfl⟩))
def ekA : Ty := (nth tb 81).get rfl
theorem eq_attr (a b : Attr) : eqK ekA a.v b.v = decide (a = b) := by
  have h : eqK ekA a.v b.v = (eqS (strT a.name) (strT b.name) && (eqS (strT a.value) (strT b.value) && true)) := rfl
  rw [h, eqS_str, eqS_str, Bool.and_true]
  obtain ⟨a1, a2⟩ := a
  obtain ⟨b1, b2⟩ := b
  by_cases h1 : a1 = b1 <;> by_cases h2 : a2 = b2 <;> simp [h1, h2]
def ckP (c : Cookie) : (List UInt8 × List UInt8 × List UInt8 × List UInt8) × (Bool × Bool × Bool × Bool) × (Int × Int × Int × Int × Int) := ((c.name, c.value, c.domain, c.path), (c.hostOnly, c.secure, c.httpOnly, c.lasting), (c.site, c.expiry, c.created, c.used, c.no))
theorem ckP_inj {a b : Cookie} (h : ckP a = ckP b) : a = b := by
  obtain ⟨a1, a2, a3, a4, a5, a6, a7, a8, a9, a10, a11, a12, a13⟩ := a
  obtain ⟨b1, b2, b3, b4, b5, b6, b7, b8, b9, b10, b11, b12, b13⟩ := b
  simp only [ckP, Prod.mk.injEq] at h
  obtain ⟨⟨rfl, rfl, rfl, rfl⟩, ⟨rfl, rfl, rfl, rfl⟩, ⟨rfl, rfl, rfl, rfl, rfl⟩⟩ := h
  rfl
instance : DecidableEq Cookie := fun a b => if h : ((a.name = b.name ∧ a.value = b.value ∧ a.domain = b.domain ∧ a.path = b.path) ∧ (a.hostOnly = b.hostOnly ∧ a.secure = b.secure ∧ a.httpOnly = b.httpOnly ∧ a.lasting = b.lasting)) ∧ (a.site = b.site ∧ a.expiry = b.expiry ∧ a.created = b.created ∧ a.used = b.used ∧ a.no = b.no) then isTrue (ckP_inj (by obtain ⟨⟨⟨h1, h2, h3, h4⟩, h5, h6, h7, h8⟩, h9, h10, h11, h12, h13⟩ := h; unfold ckP; rw [h1, h2, h3, h4, h5, h6, h7, h8, h9, h10, h11, h12, h13])) else isFalse (fun e => h (by subst e; simp))
def ekC : Ty := (nth tb 26).get rfl
theorem eqS_bool (a b : Bool) : eqS (.bool a) (.bool b) = (a == b) := rfl
theorem eqS_int (a b : Int) : eqS (.int .i64 a) (.int .i64 b) = (a == b) := rfl
theorem eq_cookie (a b : Cookie) : eqK ekC a.v b.v = decide (a = b) := by
  have h : eqK ekC a.v b.v = (eqS (strT a.name) (strT b.name) && (eqS (strT a.value) (strT b.value) && (eqS (strT a.domain) (strT b.domain) && (eqS (strT a.path) (strT b.path) && (eqS (.bool a.hostOnly) (.bool b.hostOnly) && (eqS (.bool a.secure) (.bool b.secure) && (eqS (.bool a.httpOnly) (.bool b.httpOnly) && (eqS (.bool a.lasting) (.bool b.lasting) && (eqS (.int .i64 a.site) (.int .i64 b.site) && (eqS (.int .i64 a.expiry) (.int .i64 b.expiry) && (eqS (.int .i64 a.created) (.int .i64 b.created) && (eqS (.int .i64 a.used) (.int .i64 b.used) && (eqS (.int .i64 a.no) (.int .i64 b.no) && true))))))))))))) := rfl
  rw [h]
  simp only [eqS_str, eqS_bool, eqS_int, Bool.and_true]
  rw [Bool.eq_iff_iff, decide_eq_true_iff]
  simp only [Bool.and_eq_true, beq_iff_eq, decide_eq_true_eq]
  refine ⟨fun h => ckP_inj ?_, fun h => by subst h; simp⟩
  obtain ⟨h1, h2, h3, h4, h5, h6, h7, h8, h9, h10, h11, h12, h13⟩ := h
  unfold ckP
  rw [h1, h2, h3, h4, h5, h6, h7, h8, h9, h10, h11, h12, h13]
theorem ck_lim {L : List Cookie} {r : List Abs.V} (h : V.LimL (.fro (L.map Cookie.v) :: r)) : L.length ≤ 140737488355328 := by have := h.1.1; simpa using this
theorem at_lim {L : List Attr} {r : List Abs.V} (h : V.LimL (.fro (L.map Attr.v) :: r)) : L.length ≤ 140737488355328 := by have := h.1.1; simpa using this
set_option maxRecDepth 100000 in
set_option maxHeartbeats 4000000 in
theorem sameCookies_v {L K : List Cookie} : ACalls Tryz.prog 40 [.fro (L.map Cookie.v), .fro (K.map Cookie.v)] (.bool (decide (L = K))) := ACalls.lim fun hlim => by
  have hl := ck_lim hlim
  have hx : ((L.map Cookie.v).length : Int) = (L.length : Int) := by simp
  have hy : ((K.map Cookie.v).length : Int) = (K.length : Int) := by simp
  by_cases h3 : L.length = K.length
  · skip
    refine fun2 tb_ok Tryz.func40 rfl Tryz.ntmps40 Tryz.results40 rfl fun N => ?_
    repeat' (first | refine zt ?_ | (refine isR ?_; first | refine zo ?_ | refine zA ?_ | refine zL ?_ | refine zc1 ?_ | refine zc6 ?_ | refine zI ?_ | (refine zs1 ?_ ?_ <;> intro hc) | (refine zs6 ?_ ?_ <;> intro hc)) | refine awp_split rfl (fun hb => ?_) (fun hb => ?_) | refine zr ?_ | exact x_le)
    refine awp_for (fun k => ⟨[(0, .fro (L.map Cookie.v)), (1, .fro (K.map Cookie.v)), (5, .int .i64 (k : Int))], [], 0, 26⟩) (fun k => k ≤ L.length ∧ ∀ j, j < k → L[j]? = K[j]?) L.length 0 (by exact x_le) ⟨Nat.zero_le _, fun j h => absurd h (Nat.not_lt_zero _)⟩ ?_
    intro k ⟨hk, hq⟩
    by_cases hk2 : k < L.length
    · have e1 : (L.map Cookie.v)[k]? = some (L[k]).v := by simp [hk2]
      have e2 : L[k]? = some L[k] := by simp [hk2]
      have hk3 : k < K.length := by omega
      have e3 : (K.map Cookie.v)[k]? = some (K[k]).v := by simp [hk3]
      have e4 : K[k]? = some K[k] := by simp [hk3]
      generalize L[k] = p at e1 e2
      generalize K[k] = q at e3 e4
      have he : (!eqK ekC p.v q.v) = !decide (p = q) := by rw [eq_cookie]
      by_cases hpq : p = q
      · rw [decide_eq_true hpq] at he
        repeat' (first | refine zt ?_ | (refine isR ?_; first | refine zo ?_ | refine zA ?_ | refine zL ?_ | refine zc1 ?_ | refine zc6 ?_ | refine zI ?_ | (refine zs1 ?_ ?_ <;> intro hc) | (refine zs6 ?_ ?_ <;> intro hc)) | refine awp_split rfl (fun hb => ?_) (fun hb => ?_) | refine zr ?_ | exact x_le)
        refine ⟨⟨by omega, fun j hj => ?_⟩, by omega, (by exact x_le)⟩
        rcases Nat.lt_succ_iff_lt_or_eq.1 hj with h | rfl
        · exact hq j h
        · rw [e2, e4, hpq]
      · rw [decide_eq_false hpq] at he
        repeat' (first | refine zt ?_ | (refine isR ?_; first | refine zo ?_ | refine zA ?_ | refine zL ?_ | refine zc1 ?_ | refine zc6 ?_ | refine zI ?_ | (refine zs1 ?_ ?_ <;> intro hc) | (refine zs6 ?_ ?_ <;> intro hc)) | refine awp_split rfl (fun hb => ?_) (fun hb => ?_) | refine zr ?_ | exact x_le)
        rw [decide_eq_false]
        · rfl
        intro e
        subst e
        rw [e2] at e4; cases e4; exact hpq rfl
    · have : L = K := List.ext_getElem? fun j => by
        by_cases hj : j < L.length
        · exact hq j (by omega)
        · rw [List.getElem?_eq_none (by omega), List.getElem?_eq_none (by omega)]
      repeat' (first | refine zt ?_ | (refine isR ?_; first | refine zo ?_ | refine zA ?_ | refine zL ?_ | refine zc1 ?_ | refine zc6 ?_ | refine zI ?_ | (refine zs1 ?_ ?_ <;> intro hc) | (refine zs6 ?_ ?_ <;> intro hc)) | refine awp_split rfl (fun hb => ?_) (fun hb => ?_) | refine zr ?_ | exact x_le)
      rw [decide_eq_true this]; rfl
  · rw [decide_eq_false (by intro e; subst e; exact h3 rfl)]
    refine fun2 tb_ok Tryz.func40 rfl Tryz.ntmps40 Tryz.results40 rfl fun N => ?_
    repeat' (first | refine zt ?_ | (refine isR ?_; first | refine zo ?_ | refine zA ?_ | refine zL ?_ | refine zc1 ?_ | refine zc6 ?_ | refine zI ?_ | (refine zs1 ?_ ?_ <;> intro hc) | (refine zs6 ?_ ?_ <;> intro hc)) | refine awp_split rfl (fun hb => ?_) (fun hb => ?_) | refine zr ?_ | exact x_le)
    rfl
set_option maxRecDepth 100000 in
set_option maxHeartbeats 4000000 in
theorem sameAttrs_v {L K : List Attr} : ACalls Tryz.prog 42 [.fro (L.map Attr.v), .fro (K.map Attr.v)] (.bool (decide (L = K))) := ACalls.lim fun hlim => by
  have hl := at_lim hlim
  have hx : ((L.map Attr.v).length : Int) = (L.length : Int) := by simp
  have hy : ((K.map Attr.v).length : Int) = (K.length : Int) := by simp
  by_cases h3 : L.length = K.length
  · skip
    refine fun2 tb_ok Tryz.func42 rfl Tryz.ntmps42 Tryz.results42 rfl fun N => ?_
    repeat' (first | refine zt ?_ | (refine isR ?_; first | refine zo ?_ | refine zA ?_ | refine zL ?_ | refine zc1 ?_ | refine zc6 ?_ | refine zI ?_ | (refine zs1 ?_ ?_ <;> intro hc) | (refine zs6 ?_ ?_ <;> intro hc)) | refine awp_split rfl (fun hb => ?_) (fun hb => ?_) | refine zr ?_ | exact x_le)
    refine awp_for (fun k => ⟨[(0, .fro (L.map Attr.v)), (1, .fro (K.map Attr.v)), (5, .int .i64 (k : Int))], [], 0, 26⟩) (fun k => k ≤ L.length ∧ ∀ j, j < k → L[j]? = K[j]?) L.length 0 (by exact x_le) ⟨Nat.zero_le _, fun j h => absurd h (Nat.not_lt_zero _)⟩ ?_
    intro k ⟨hk, hq⟩
    by_cases hk2 : k < L.length
    · have e1 : (L.map Attr.v)[k]? = some (L[k]).v := by simp [hk2]
      have e2 : L[k]? = some L[k] := by simp [hk2]
      have hk3 : k < K.length := by omega
      have e3 : (K.map Attr.v)[k]? = some (K[k]).v := by simp [hk3]
      have e4 : K[k]? = some K[k] := by simp [hk3]
      generalize L[k] = p at e1 e2
      generalize K[k] = q at e3 e4
      have he : (!eqK ekA p.v q.v) = !decide (p = q) := by rw [eq_attr]
      by_cases hpq : p = q
      · rw [decide_eq_true hpq] at he
        repeat' (first | refine zt ?_ | (refine isR ?_; first | refine zo ?_ | refine zA ?_ | refine zL ?_ | refine zc1 ?_ | refine zc6 ?_ | refine zI ?_ | (refine zs1 ?_ ?_ <;> intro hc) | (refine zs6 ?_ ?_ <;> intro hc)) | refine awp_split rfl (fun hb => ?_) (fun hb => ?_) | refine zr ?_ | exact x_le)
        refine ⟨⟨by omega, fun j hj => ?_⟩, by omega, (by exact x_le)⟩
        rcases Nat.lt_succ_iff_lt_or_eq.1 hj with h | rfl
        · exact hq j h
        · rw [e2, e4, hpq]
      · rw [decide_eq_false hpq] at he
        repeat' (first | refine zt ?_ | (refine isR ?_; first | refine zo ?_ | refine zA ?_ | refine zL ?_ | refine zc1 ?_ | refine zc6 ?_ | refine zI ?_ | (refine zs1 ?_ ?_ <;> intro hc) | (refine zs6 ?_ ?_ <;> intro hc)) | refine awp_split rfl (fun hb => ?_) (fun hb => ?_) | refine zr ?_ | exact x_le)
        rw [decide_eq_false]
        · rfl
        intro e
        subst e
        rw [e2] at e4; cases e4; exact hpq rfl
    · have : L = K := List.ext_getElem? fun j => by
        by_cases hj : j < L.length
        · exact hq j (by omega)
        · rw [List.getElem?_eq_none (by omega), List.getElem?_eq_none (by omega)]
      repeat' (first | refine zt ?_ | (refine isR ?_; first | refine zo ?_ | refine zA ?_ | refine zL ?_ | refine zc1 ?_ | refine zc6 ?_ | refine zI ?_ | (refine zs1 ?_ ?_ <;> intro hc) | (refine zs6 ?_ ?_ <;> intro hc)) | refine awp_split rfl (fun hb => ?_) (fun hb => ?_) | refine zr ?_ | exact x_le)
      rw [decide_eq_true this]; rfl
  · rw [decide_eq_false (by intro e; subst e; exact h3 rfl)]
    refine fun2 tb_ok Tryz.func42 rfl Tryz.ntmps42 Tryz.results42 rfl fun N => ?_
    repeat' (first | refine zt ?_ | (refine isR ?_; first | refine zo ?_ | refine zA ?_ | refine zL ?_ | refine zc1 ?_ | refine zc6 ?_ | refine zI ?_ | (refine zs1 ?_ ?_ <;> intro hc) | (refine zs6 ?_ ?_ <;> intro hc)) | refine awp_split rfl (fun hb => ?_) (fun hb => ?_) | refine zr ?_ | exact x_le)
    rfl
def crumbC (n p : List UInt8) (cr no : Int) : Cookie := ⟨n, [118], [], p, false, false, false, false, 0, 0, cr, 0, no⟩
set_option maxRecDepth 100000 in
set_option maxHeartbeats 4000000 in
theorem crumb_v {n p : List UInt8} {cr no : Int} : ACalls Tryz.prog 15 [strT n, strT p, .int .i64 cr, .int .i64 no] (crumbC n p cr no).v := by
  refine fun4 tb_ok Tryz.func15 rfl Tryz.ntmps15 Tryz.results15 rfl fun N => ?_
  repeat' (first | refine zt ?_ | (refine isR ?_; first | refine zo ?_) | refine awp_split rfl (fun hb => ?_) (fun hb => ?_) | refine zr ?_ | exact x_le)
  rfl
end Go.Proofs.YtepnalbefjicgaaGreatDoor.LineB
end

section
namespace Go.Proofs.YtepnalbefjicgaaGreatDoor.JarU
open Go.RowKit Mem Abs Scan JarP JarQ JarA JarB JarC JarE JarL JarJ JarK JarS JarT JarH Rdy Globs GoesW

abbrev cI : Cookie := ⟨([105, 100] : List UInt8), ([55] : List UInt8), ([115, 104, 111, 112, 46, 99, 111, 109] : List UInt8), ([47, 99, 97, 114, 116] : List UInt8), false, true, false, true, 0, 1060, 1000, 1000, 0⟩
abbrev c8 : Cookie := ⟨([105, 100] : List UInt8), ([56] : List UInt8), ([115, 104, 111, 112, 46, 99, 111, 109] : List UInt8), ([47, 99, 97, 114, 116] : List UInt8), false, true, false, true, 0, 1060, 1005, 1005, 0⟩
abbrev c9 : Cookie := ⟨([105, 100] : List UInt8), ([56] : List UInt8), ([115, 104, 111, 112, 46, 99, 111, 109] : List UInt8), ([47, 99, 97, 114, 116] : List UInt8), false, true, false, true, 0, 1060, 1000, 1005, 0⟩
abbrev cU : Cookie := ⟨([105, 100] : List UInt8), ([56] : List UInt8), ([115, 104, 111, 112, 46, 99, 111, 109] : List UInt8), ([47, 99, 97, 114, 116] : List UInt8), false, true, false, true, 0, 1060, 1000, 1010, 0⟩
abbrev fS : From := ⟨([119, 119, 119, 46, 115, 104, 111, 112, 46, 99, 111, 109] : List UInt8), ([47, 99, 97, 114, 116, 47, 97, 100, 100] : List UInt8), true, false, false⟩
set_option maxRecDepth 100000 in
set_option maxHeartbeats 4000000 in
theorem ident_v : ACalls Tryz.prog 34 [] cI.v := by
  refine fun0 tb_ok Tryz.func34 rfl Tryz.ntmps34 Tryz.results34 fun N => ?_
  repeat' (first | refine zt ?_ | (refine isR ?_; first | refine zo ?_) | refine awp_split rfl (fun hb => ?_) (fun hb => ?_) | refine zr ?_ | exact x_le)
  rfl
set_option maxRecDepth 100000 in
set_option maxHeartbeats 4000000 in
theorem shop_v : ACalls Tryz.prog 35 [] fS.v := by
  refine fun0 tb_ok Tryz.func35 rfl Tryz.ntmps35 Tryz.results35 fun N => ?_
  repeat' (first | refine zt ?_ | (refine isR ?_; first | refine zo ?_) | refine awp_split rfl (fun hb => ?_) (fun hb => ?_) | refine zr ?_ | exact x_le)
  rfl
theorem put_at {L M : List Cookie} {nx nx2 : Int} {c : Cookie} {now : Int} (h : codePut L nx c now = 0) (hp : putF L nx c now = (M, nx2)) : ACalls Tryz.prog 5 [jarV L nx, c.v, .int .i64 now] (.tup [jarV M nx2, .int .i64 0]) := by
  have := pPut_v h
  rw [hp] at this
  exact this
theorem p1 : ACalls Tryz.prog 5 [noJ, cI.v, .int .i64 1000] (.tup [jarV [cI] 1, .int .i64 0]) := (put_at (L := []) (nx := 0) (c := cI) (now := 1000) (by decide +kernel) (by rfl)).nf rfl
theorem p2 : ACalls Tryz.prog 5 [jarV [cI] 1, c8.v, .int .i64 1005] (.tup [jarV [c9] 1, .int .i64 0]) := put_at (by decide +kernel) (by rfl)
theorem p3 : ACalls Tryz.prog 5 [jarV [c9] 1, cI.v, .int .i64 1060] (.tup [jarV [] 2, .int .i64 0]) := put_at (by decide +kernel) (by rfl)
theorem p4 : ACalls Tryz.prog 16 [.agg [.fro [cI.v], .int .i64 0]] (.int .i64 4) := by
  have := jcheck_v (L := [cI]) (nx := 0)
  rw [show checkJ [cI] 0 = 4 by decide +kernel] at this
  exact this
theorem g1 : goesF c9 fS 1010 = true := by decide +kernel
theorem g2 : readyF fS 1010 = 0 := by decide +kernel
theorem p5 : ACallsG Tryz.prog gStr 6 [jarV [c9] 1, fS.v, .int .i64 1010] (.tup [jarV [cU] 1, .fro ([cU].map Cookie.v), .int .i64 0]) := by
  have h1 := jcheck_v (L := [c9]) (nx := 1)
  rw [show checkJ [c9] 1 = 0 by decide +kernel] at h1
  have h2 := ready_v (f := fS) (now := 1010)
  rw [g2] at h2
  have h3 : ∀ c ∈ [c9], ACallsG Tryz.prog gStr 26 [c.v, fS.v, .int .i64 1010] (.bool (goesF c fS 1010)) := fun c hc => by
    rw [List.mem_singleton] at hc
    subst hc
    exact goes_v (by decide) (by decide)
  have h4 := LineA.lineSort_v (L := [cU]) (by decide)
  have e1 : ([c9].filter fun c => goesF c fS 1010).map (fun c => { c with used := 1010 }) = [cU] := by
    rw [List.filter_cons, g1]; rfl
  have e2 : [c9].map (JarI.useF (fun c => goesF c fS 1010) 1010) = [cU] := by
    rw [List.map_cons, JarI.useF, g1]; rfl
  have e3 : SortP.sortF SortW.ckLt [cU] = [cU] := by decide +kernel
  rw [e3] at h4
  rw [← e1] at h4
  have := pGet_v (g := fun c => goesF c fS 1010) h1 h2 h3 (by decide) (G := [cU]) (by rw [e1] at h4 ⊢; exact h4)
  rw [e2] at this
  exact this
set_option maxRecDepth 100000 in
set_option maxHeartbeats 4000000 in
theorem begun_v : ACallsG Tryz.prog gStr 9 [] (.bool true) := by
  have e1 : ([cI].map Cookie.v).length = 1 := rfl
  have e2 : ([c9].map Cookie.v).length = 1 := rfl
  have e3 : ([cU].map Cookie.v).length = 1 := rfl
  have e4 : (([] : List Cookie).map Cookie.v).length = 0 := rfl
  have e5 : c9.created = 1000 := rfl
  have e6 : cU.used = 1010 := rfl
  refine funG0 tb_ok Tryz.func9 rfl Tryz.ntmps9 Tryz.results9 fun N => ?_
  repeat' (first | refine zt ?_ | (refine isR ?_; first | refine zo ?_ | refine zk shop_v ?_ | refine zk ident_v ?_ | refine zk p1 ?_ | refine zk p2 ?_ | refine zk p5 ?_ | refine zk p3 ?_ | refine zk p4 ?_ | refine x_bs tb_ok ?_ | refine zL ?_ | refine zc5 ?_ | refine zI ?_ | (refine zs5 ?_ ?_ <;> intro hc)) | refine awp_split rfl (fun hb => ?_) (fun hb => ?_) | refine zr ?_ | exact x_le)
  all_goals first | rfl | (exfalso; omega)
theorem pPutBad_v {L : List Cookie} {nx : Int} {c : Cookie} {now : Int} (h : codePut L nx c now ≠ 0) : ACalls Tryz.prog 5 [jarV L nx, c.v, .int .i64 now] (.tup [noJ, .int .i64 ((codePut L nx c now : Nat) : Int)]) := by
  have c1 := jcheck_v (L := L) (nx := nx)
  by_cases h0 : checkJ L nx = 0
  · rw [h0] at c1
    exact pPutBad2_v c1 h h0
  · have e : codePut L nx c now = checkJ L nx := by unfold codePut; rw [if_pos h0]
    rw [e]
    exact pPutBad1_v c1 (by omega)
theorem same_v {L : List Cookie} {nx : Int} : ACalls Tryz.prog 13 [jarV L nx, jarV L nx] (.bool true) := by
  have := sameJar_v (nx := nx) (nx2 := nx) (LineB.sameCookies_v (L := L) (K := L))
  simpa using this
end Go.Proofs.YtepnalbefjicgaaGreatDoor.JarU
end

section
namespace Go.Proofs.YtepnalbefjicgaaGreatDoor.RjP
open Go.RowKit Mem Abs Scan JarP JarQ JarA JarB JarC JarE JarF JarI JarJ JarK JarH JarL JarM JarO JarS JarT JarU Globs GoesW Rdy SortP SortW LineA

theorem ready_host {f : From} {now : Int} (h : readyF f now = 0) : f.host.length ≤ 4398046511104 := by
  unfold readyF at h
  split at h
  · rename_i q
    have e := q.1
    unfold hostOk at e
    have e := of_decide_eq_true e
    unfold HostP.canonF at e
    split at e
    · exact absurd (congrArg Prod.snd e) (by simp)
    · omega
  · cases h
abbrev ownJ (k n : Nat) (nx : Int) : Abs.V := .agg [.own k 0 n, .int .i64 nx]
set_option maxRecDepth 100000 in
set_option maxHeartbeats 4000000 in
theorem sort_m {L : List Cookie} (hb : L.length * 112 ≤ 140737488355328) : MCalls Tryz.prog 8 [.fro (L.map Cookie.v)] [] (.own 0 0 (sortF ckLt L).length) [some (rC (sortF ckLt L))] := by
  have c1 := clone_v hb
  have c2 := sortStable_v (L := L) rfl (by omega)
  have hl : (sortF ckLt L).length = L.length := sortF_len
  generalize sortF ckLt L = M at *
  rw [← hl] at c1 c2
  refine mfun tb_ok Tryz.func8 rfl Tryz.ntmps8 Tryz.results8 rfl rfl rfl rfl fun N pl => ?_
  repeat' (first | refine zt ?_ | (refine isR ?_; first | refine zo ?_ | refine x_m [] [0] (c1 _) ?_ | refine x_m0 [] [0] (c1 _) ?_ | refine x_m [] [0] (c1) ?_ | refine x_m0 [] [0] (c1) ?_ | refine x_m [0] [] (c2 _) ?_ | refine x_m0 [0] [] (c2 _) ?_ | refine x_m [0] [] (c2) ?_ | refine x_m0 [0] [] (c2) ?_) | refine awp_split rfl (fun hb => ?_) (fun hb => ?_) | refine x_mret [0] ?_ ?_ | refine x_mnor [0] ?_ ?_ | refine zr ?_ | exact x_le)
  · rfl
  · exact .on (.same (nl_map fun _ => rfl)) .nil
set_option maxRecDepth 100000 in
set_option maxHeartbeats 4000000 in
theorem putNew_m {L M E1 E2 : List Cookie} {c : Cookie} {nx now : Int} (hb : L.length ≤ 12) (hn : 0 ≤ nx) (hn2 : nx < 1099511627776) (h1 : isJ now = true) (h2 : badM c = false) (h0 : checkJ L nx = 0) (hf : (liveF now L).findIdx? (fun x => sameK x c) = none)
    (hM : liveF now (liveF now L ++ [{ c with no := nx }]) = M) (hE1 : evF 4 (ofP c.domain false) (M.length + 1) M = E1) (hE2 : evF 12 (ofP [] true) (E1.length + 1) E1 = E2) (hb1 : M.length ≤ 100) (hb2 : E1.length ≤ 100) :
    MCalls Tryz.prog 5 [jarV L nx, c.v, .int .i64 now] [] (.tup [ownJ 0 E2.length (nx + 1), .int .i64 0]) [some (rC E2)] := by
  have c1 := jcheck_v (L := L) (nx := nx)
  rw [h0] at c1
  have c2 := is_v (n := now)
  rw [h1] at c2
  have c3 := moments_v (c := c)
  rw [h2] at c3
  change ACalls _ _ _ (.bool true) at c3
  have c4 := own_m (L := L) (nx := nx) (now := now) (by omega)
  have c5 := expire_m (L := L) (nx := nx) (now := now) (by omega)
  have hl : (liveF now L).length ≤ 12 := Nat.le_trans (List.length_filter_le _ _) hb
  have c6 := JarN.layNew_m (L := liveF now L) (c := c) (nx := nx) (now := now) (by omega) hn (by omega) hf
  have hl2 : (liveF now L ++ [{ c with no := nx }]).length ≤ 1000 := by rw [List.length_append]; simp; omega
  have c7 := expire_m (nx := nx + 1) (now := now) hl2
  rw [hM] at c7
  have c8 := evict1_m (c := c) (most := 4) (nx := nx + 1) (now := now) (by omega) hE1
  have c9 := evict2_m (most := 12) (nx := nx + 1) (now := now) (by omega) hE2
  generalize liveF now L ++ [{ c with no := nx }] = K at *
  generalize liveF now L = A at *
  refine mfun tb_ok Tryz.func5 rfl Tryz.ntmps5 Tryz.results5 rfl rfl rfl rfl fun N pl => ?_
  repeat' (first | refine zt ?_ | (refine isR ?_; first | refine zo ?_ | refine zk c1 ?_ | refine zk c2 ?_ | refine zk c3 ?_ | refine x_m [] [1,2] (c4 _) ?_ | refine x_m0 [] [1,2] (c4 _) ?_ | refine x_m [] [1,2] (c4) ?_ | refine x_m0 [] [1,2] (c4) ?_ | refine x_m [1,2] [] (c5 _) ?_ | refine x_m0 [1,2] [] (c5 _) ?_ | refine x_m [1,2] [] (c5) ?_ | refine x_m0 [1,2] [] (c5) ?_ | refine x_m [1,2] [3] (c6 _) ?_ | refine x_m0 [1,2] [3] (c6 _) ?_ | refine x_m [1,2] [3] (c6) ?_ | refine x_m0 [1,2] [3] (c6) ?_ | refine x_m [3,2] [] (c7 _) ?_ | refine x_m0 [3,2] [] (c7 _) ?_ | refine x_m [3,2] [] (c7) ?_ | refine x_m0 [3,2] [] (c7) ?_ | refine x_m [3,2] [] (c8 _) ?_ | refine x_m0 [3,2] [] (c8 _) ?_ | refine x_m [3,2] [] (c8) ?_ | refine x_m0 [3,2] [] (c8) ?_ | refine x_m [3,2] [] (c9 _) ?_ | refine x_m0 [3,2] [] (c9 _) ?_ | refine x_m [3,2] [] (c9) ?_ | refine x_m0 [3,2] [] (c9) ?_ | refine zc5 ?_ | refine zc6 ?_ | (refine zs5 ?_ ?_ <;> intro hc) | (refine zs6 ?_ ?_ <;> intro hc)) | refine awp_split rfl (fun hb => ?_) (fun hb => ?_) | refine x_mret [3] ?_ ?_ | refine x_mnor [3] ?_ ?_ | refine zr ?_ | exact x_le)
  · rfl
  · exact .on (.same (nl_map fun _ => rfl)) .nil
set_option maxRecDepth 100000 in
set_option maxHeartbeats 4000000 in
theorem putSame_m {L M E1 E2 : List Cookie} {c d : Cookie} {i : Nat} {nx now : Int} (hb : L.length ≤ 12) (hn : 0 ≤ nx) (hn2 : nx < 1099511627776) (h1 : isJ now = true) (h2 : badM c = false) (h0 : checkJ L nx = 0) (hf : (liveF now L).findIdx? (fun x => sameK x c) = some i) (hx : (liveF now L)[i]? = some d)
    (hM : liveF now ((liveF now L).set i { c with created := d.created, no := d.no }) = M) (hE1 : evF 4 (ofP c.domain false) (M.length + 1) M = E1) (hE2 : evF 12 (ofP [] true) (E1.length + 1) E1 = E2) (hb1 : M.length ≤ 100) (hb2 : E1.length ≤ 100) :
    MCalls Tryz.prog 5 [jarV L nx, c.v, .int .i64 now] [] (.tup [ownJ 0 E2.length nx, .int .i64 0]) [some (rC E2)] := by
  have c1 := jcheck_v (L := L) (nx := nx)
  rw [h0] at c1
  have c2 := is_v (n := now)
  rw [h1] at c2
  have c3 := moments_v (c := c)
  rw [h2] at c3
  change ACalls _ _ _ (.bool true) at c3
  have c4 := own_m (L := L) (nx := nx) (now := now) (by omega)
  have c5 := expire_m (L := L) (nx := nx) (now := now) (by omega)
  have hl : (liveF now L).length ≤ 12 := Nat.le_trans (List.length_filter_le _ _) hb
  have c6 := JarN.laySame_m (L := liveF now L) (c := c) (nx := nx) (now := now) (by omega) hf hx
  have hset : ((liveF now L).set i { c with created := d.created, no := d.no }).length = (liveF now L).length := List.length_set
  have c7 := expire_m (L := (liveF now L).set i { c with created := d.created, no := d.no }) (nx := nx) (now := now) (by omega)
  rw [hM, hset] at c7
  have c8 := evict1_m (c := c) (most := 4) (nx := nx) (now := now) (by omega) hE1
  have c9 := evict2_m (most := 12) (nx := nx) (now := now) (by omega) hE2
  have hne : nx ≠ 1099511627776 := by omega
  generalize (liveF now L).set i { c with created := d.created, no := d.no } = K at *
  generalize liveF now L = A at *
  refine mfun tb_ok Tryz.func5 rfl Tryz.ntmps5 Tryz.results5 rfl rfl rfl rfl fun N pl => ?_
  repeat' (first | refine zt ?_ | (refine isR ?_; first | refine zo ?_ | refine zk c1 ?_ | refine zk c2 ?_ | refine zk c3 ?_ | refine x_m [] [1,2] (c4 _) ?_ | refine x_m0 [] [1,2] (c4 _) ?_ | refine x_m [] [1,2] (c4) ?_ | refine x_m0 [] [1,2] (c4) ?_ | refine x_m [1, 2] [] (c5 _) ?_ (hst := .cons (.same (nl_map fun _ => rfl)) (.cons (.ren rfl) .nil)) | refine x_m [1,2] [] (c6 _) ?_ | refine x_m0 [1,2] [] (c6 _) ?_ | refine x_m [1,2] [] (c6) ?_ | refine x_m0 [1,2] [] (c6) ?_ | refine x_m [1, 2] [] (c7 _) ?_ (hst := .cons (.same (nl_map fun _ => rfl)) (.cons (.ren rfl) .nil)) | refine x_m [1,2] [] (c8 _) ?_ | refine x_m0 [1,2] [] (c8 _) ?_ | refine x_m [1,2] [] (c8) ?_ | refine x_m0 [1,2] [] (c8) ?_ | refine x_m [1,2] [] (c9 _) ?_ | refine x_m0 [1,2] [] (c9 _) ?_ | refine x_m [1,2] [] (c9) ?_ | refine x_m0 [1,2] [] (c9) ?_ | refine zc5 ?_ | refine zc6 ?_ | (refine zs5 ?_ ?_ <;> intro hc) | (refine zs6 ?_ ?_ <;> intro hc)) | refine awp_split rfl (fun hb => ?_) (fun hb => ?_) | refine x_mret [1] ?_ ?_ | refine x_mnor [1] ?_ ?_ | refine zr ?_ | exact x_le)
  · rfl
  · exact .on (.same (nl_map fun _ => rfl)) .nil
theorem ev_len : ∀ (most : Nat) (p : Cookie → Bool) (f : Nat) (M : List Cookie), (evF most p f M).length ≤ M.length
  | _, _, 0, M => Nat.le_refl _
  | most, p, f + 1, M => by
    rw [evF]
    split
    · exact Nat.le_refl _
    · split
      · exact Nat.le_refl _
      · exact Nat.le_trans (ev_len most p f _) (List.length_eraseIdx_le _ _)
theorem live_len (now : Int) (M : List Cookie) : (liveF now M).length ≤ M.length := List.length_filter_le _ _
/-- A jar that is told as faulty: as one of one's own, with nothing in it. -/
theorem noJ_m {f : Nat} {vs : List Abs.V} {e : Int} (h : ACalls Tryz.prog f vs (.tup [noJ, .int .i64 e])) (hn : V.namesL vs = []) : MCalls Tryz.prog f vs [] (.tup [ownJ 0 ([] : List Cookie).length 0, .int .i64 e]) [some (rC [])] :=
  acalls_nil (T := TC) (sz := 13) 1 h hn (.agg (.at (by decide) (.same .nil)) (.same .nil)) (by decide)
theorem put_any {L : List Cookie} {nx : Int} {c : Cookie} {now : Int} : ∃ (A : List Cookie) (n1 e1 : Int), A.length ≤ 100 ∧ MCalls Tryz.prog 5 [jarV L nx, c.v, .int .i64 now] [] (.tup [ownJ 0 A.length n1, .int .i64 e1]) [some (rC A)] := by
  by_cases h : codePut L nx c now = 0
  · obtain ⟨h1, h2, h3, h4⟩ := JarH.codePut_zero h
    have hr : Rj L nx := check_zero.1 h1
    have hn := hr.nx
    have hlen := hr.len
    have hl1 := live_len now L
    cases hf : (liveF now L).findIdx? (fun x => sameK x c) with
    | none =>
      have hb1 : (liveF now (liveF now L ++ [{ c with no := nx }])).length ≤ 100 := by
        refine Nat.le_trans (live_len _ _) ?_
        rw [List.length_append]
        simp
        omega
      exact ⟨_, _, _, Nat.le_trans (ev_len _ _ _ _) (Nat.le_trans (ev_len _ _ _ _) hb1), putNew_m hlen hn.1 (by omega) h2 h3 h1 hf rfl rfl rfl hb1 (Nat.le_trans (ev_len _ _ _ _) hb1)⟩
    | some i0 =>
      obtain ⟨hi, _, _⟩ := List.findIdx?_eq_some_iff_getElem.1 hf
      have hx : (liveF now L)[i0]? = some (liveF now L)[i0] := by simp [hi]
      have hb1 : (liveF now ((liveF now L).set i0 { c with created := ((liveF now L)[i0]).created, no := ((liveF now L)[i0]).no })).length ≤ 100 := by
        refine Nat.le_trans (live_len _ _) ?_
        rw [List.length_set]
        omega
      exact ⟨_, _, _, Nat.le_trans (ev_len _ _ _ _) (Nat.le_trans (ev_len _ _ _ _) hb1), putSame_m hlen hn.1 (by omega) h2 h3 h1 hf hx rfl rfl rfl hb1 (Nat.le_trans (ev_len _ _ _ _) hb1)⟩
  · exact ⟨[], _, _, by simp, noJ_m (pPutBad_v h) rfl⟩
set_option maxRecDepth 100000 in
set_option maxHeartbeats 4000000 in
theorem get_m {Γ : Glob} {L : List Cookie} {nx : Int} {now : Int} {f : From} {g : Cookie → Bool} {G : List Cookie} (c1 : ACalls Tryz.prog 16 [jarV L nx] (.int .i64 0)) (c2 : ACalls Tryz.prog 25 [f.v, .int .i64 now] (.int .i64 0)) (c3 : ∀ c ∈ L, ACallsG Tryz.prog Γ 26 [c.v, f.v, .int .i64 now] (.bool (g c))) (hL : L.length ≤ 12)
    (c4 : MCalls Tryz.prog 8 [.fro (((L.filter g).map fun c => { c with used := now }).map Cookie.v)] [] (.own 0 0 G.length) [some (rC G)]) :
    MCallsG Tryz.prog Γ 6 [jarV L nx, f.v, .int .i64 now] [] (.tup [ownJ 0 (L.map (useF g now)).length nx, .own 1 0 G.length, .int .i64 0]) [some (rC (L.map (useF g now))), some (rC G)] := by
  have hml : (L.map Cookie.v).length = L.length := List.length_map _
  have c5 := own_m (L := L) (nx := nx) (now := now) (by omega)
  refine mfunG tb_ok Tryz.func6 rfl Tryz.ntmps6 Tryz.results6 rfl rfl rfl rfl fun N pl => ?_
  repeat' (first | refine zt ?_ | (refine isR ?_; first | refine zo ?_ | refine zk c1 ?_ | refine zk c2 ?_ | refine x_m [] [1,2] (c5 _) ?_ | refine x_m0 [] [1,2] (c5 _) ?_ | refine x_m [] [1,2] (c5) ?_ | refine x_m0 [] [1,2] (c5) ?_ | refine x_bs tb_ok ?_ | refine zA ?_ | refine zL ?_ | refine zc1 ?_ | refine zc5 ?_ | refine zc6 ?_ | refine zI ?_ | (refine zs1 ?_ ?_ <;> intro hc) | (refine zs5 ?_ ?_ <;> intro hc) | (refine zs6 ?_ ?_ <;> intro hc)) | refine awp_split rfl (fun hb => ?_) (fun hb => ?_) | refine zr ?_ | exact x_le)
  refine awp_name (t := 11) TC 13 (by decide) rfl rfl ?_
  refine awp_forN (fun i => stT L nx now f ((L.take i).map (useF g now) ++ L.drop i) (((L.take i).filter g).map fun c => { c with used := now }) i) (fun i => i ≤ L.length) L.length 0 (by exact x_le) (Nat.zero_le _) ?_
  intro i hi
  by_cases hi2 : i < L.length
  · have hx : L[i]? = some L[i] := by simp [hi2]
    have hlt : ((L.take i).map (useF g now)).length = i := by rw [List.length_map, List.length_take]; omega
    have hA : ((L.take i).map (useF g now) ++ L.drop i).length = L.length := by rw [List.length_append, hlt, List.length_drop]; omega
    have hAx : ((L.take i).map (useF g now) ++ L.drop i)[i]? = some L[i] := by
      rw [List.getElem?_append_right (by omega), hlt, Nat.sub_self, List.getElem?_drop]
      exact hx
    have hdc : L.drop i = L[i] :: L.drop (i + 1) := List.drop_eq_getElem_cons hi2
    have e1 : ∀ d, ((L.take i).map (useF g now) ++ L.drop i).set i d = (L.take i).map (useF g now) ++ d :: L.drop (i + 1) := fun d => by
      rw [List.set_append_right _ _ (by omega), hlt, Nat.sub_self, hdc]; rfl
    have e3 : (L.take (i + 1)).map (useF g now) ++ L.drop (i + 1) = (L.take i).map (useF g now) ++ useF g now L[i] :: L.drop (i + 1) := by rw [List.take_add_one, hx, List.map_append, List.append_assoc]; rfl
    have e2 : ((L.take (i + 1)).filter g).map (fun c => { c with used := now }) = ((L.take i).filter g).map (fun c => { c with used := now }) ++ if g L[i] = true then [{ L[i] with used := now }] else [] := by
      rw [List.take_add_one, hx, List.filter_append, List.map_append]
      congr 1
      by_cases h : g L[i] = true <;> simp [h]
    have hB : (((L.take i).filter g).map fun c => { c with used := now }).length ≤ 100 := by rw [List.length_map]; exact Nat.le_trans (List.length_filter_le _ _) (by simp; omega)
    have cg := c3 L[i] (List.getElem_mem hi2)
    have e4 := e1 { L[i] with used := now }
    have e5 : (L.take i).map (useF g now) ++ L[i] :: L.drop (i + 1) = (L.take i).map (useF g now) ++ L.drop i := by rw [hdc]
    generalize L[i] = c at *
    generalize (L.take (i + 1)).map (useF g now) ++ L.drop (i + 1) = A1 at *
    generalize ((L.take (i + 1)).filter g).map (fun c => { c with used := now }) = B1 at *
    generalize hAA : (L.take i).map (useF g now) ++ L.drop i = A at *
    generalize ((L.take i).filter g).map (fun c => { c with used := now }) = B at *
    subst e2
    have hAm : (A.map Cookie.v).length = A.length := List.length_map _
    by_cases h : g c = true
    · rw [h] at cg
      rw [show useF g now c = { c with used := now } from if_pos h] at e3
      rw [if_pos h]
      have hAx2 : (A.set i { c with used := now })[i]? = some { c with used := now } := by rw [List.getElem?_set, if_pos rfl, if_pos (by omega)]
      rw [← e4] at e3
      subst e3
      repeat' (first | (refine isR ?_; first | refine r_val rfl rfl rfl (law_move rfl) (hT rfl Abs.h0) ?_ | refine r_val rfl rfl rfl (law_nilCheck rfl rfl) (hT rfl Abs.h0) ?_ | refine r_val rfl rfl rfl (law_fieldAddr tb_ok rfl rfl rfl rfl rfl) (hT rfl Abs.h0) ?_ | refine x_ldI Cookie.v i tb_ok ?_) | refine zt ?_ | (refine isR ?_; first | refine zo ?_ | refine zk cg ?_ | refine x_stO Cookie.v (a1 := { c with used := now }) i tb_ok ?_ | refine x_app Cookie.v (a1 := ({ c with used := now })) tb_ok ?_ | refine x_bs tb_ok ?_ | refine zA ?_ | refine zL ?_ | refine zc1 ?_ | refine zc5 ?_ | refine zc6 ?_ | refine zI ?_ | (refine zs1 ?_ ?_ <;> intro hc) | (refine zs5 ?_ ?_ <;> intro hc) | (refine zs6 ?_ ?_ <;> intro hc)) | refine awp_split rfl (fun hb => ?_) (fun hb => ?_) | refine zr ?_ | exact x_le)
      refine ⟨by omega, hi2, ?_⟩
      exact (by exact x_len [0, 1, 2, 4])
    · have h : g c = false := by simpa using h
      rw [h] at cg
      rw [show useF g now c = c from if_neg (by rw [h]; simp), e5] at e3
      rw [if_neg (by rw [h]; simp), List.append_nil]
      subst e3
      repeat' (first | (refine isR ?_; first | refine r_val rfl rfl rfl (law_move rfl) (hT rfl Abs.h0) ?_ | refine r_val rfl rfl rfl (law_nilCheck rfl rfl) (hT rfl Abs.h0) ?_ | refine r_val rfl rfl rfl (law_fieldAddr tb_ok rfl rfl rfl rfl rfl) (hT rfl Abs.h0) ?_ | refine x_ldI Cookie.v i tb_ok ?_) | refine zt ?_ | (refine isR ?_; first | refine zo ?_ | refine zk cg ?_ | refine x_bs tb_ok ?_ | refine zA ?_ | refine zL ?_ | refine zc1 ?_ | refine zc5 ?_ | refine zc6 ?_ | refine zI ?_ | (refine zs1 ?_ ?_ <;> intro hc) | (refine zs5 ?_ ?_ <;> intro hc) | (refine zs6 ?_ ?_ <;> intro hc)) | refine awp_split rfl (fun hb => ?_) (fun hb => ?_) | refine zr ?_ | exact x_le)
      refine ⟨by omega, hi2, ?_⟩
      exact (by exact x_len [0, 1, 2, 3])
  · obtain rfl : i = L.length := by omega
    rw [List.take_length, List.drop_length, List.append_nil]
    have hlm : (L.map (useF g now)).length = L.length := by simp
    rw [hlm]
    repeat' (first | refine awp_freeze 3 11 rfl (fun _ => rfl) ?_ | refine zt ?_ | (refine isR ?_; first | refine zo ?_ | refine x_m [] [4] (c4 _) ?_ | refine x_m0 [] [4] (c4 _) ?_ | refine x_m [] [4] (c4) ?_ | refine x_m0 [] [4] (c4) ?_ | refine x_bs tb_ok ?_ | refine zA ?_ | refine zL ?_ | refine zc1 ?_ | refine zc5 ?_ | refine zc6 ?_ | refine zI ?_ | (refine zs1 ?_ ?_ <;> intro hc) | (refine zs5 ?_ ?_ <;> intro hc) | (refine zs6 ?_ ?_ <;> intro hc)) | refine awp_split rfl (fun hb => ?_) (fun hb => ?_) | refine x_mret [1, 4] ?_ ?_ | refine x_mnor [1, 4] ?_ ?_ | refine zr ?_ | exact x_le)
    · rfl
    · exact .on (.same (nl_map fun _ => rfl)) (.on (.same (nl_map fun _ => rfl)) .nil)
theorem noG_m {f : Nat} {vs : List Abs.V} {e : Int} (h : ACalls Tryz.prog f vs (.tup [noJ, .nils, .int .i64 e])) (hn : V.namesL vs = []) : MCalls Tryz.prog f vs [] (.tup [ownJ 0 ([] : List Cookie).length 0, .own 1 0 ([] : List Cookie).length, .int .i64 e]) [some (rC []), some (rC [])] :=
  acalls_nil (T := TC) (sz := 13) 2 h hn (.agg (.at (by decide) (.same .nil)) (.at (by decide) (.same .nil))) (by decide)
theorem get_any {L : List Cookie} {nx now : Int} {f : From} (hd : ∀ c ∈ L, c.domain.length ≤ 140737488355327) : ∃ (B G : List Cookie) (n2 e2 : Int), B.length ≤ 100 ∧ G.length ≤ 100 ∧ MCallsG Tryz.prog gStr 6 [jarV L nx, f.v, .int .i64 now] [] (.tup [ownJ 0 B.length n2, .own 1 0 G.length, .int .i64 e2]) [some (rC B), some (rC G)] := by
  have c1 := jcheck_v (L := L) (nx := nx)
  by_cases h0 : checkJ L nx = 0
  · rw [h0] at c1
    have hr : Rj L nx := check_zero.1 h0
    have hlen := hr.len
    have c2 := ready_v (f := f) (now := now)
    by_cases h1 : readyF f now = 0
    · rw [h1] at c2
      have hh := ready_host h1
      have hl : ((L.filter fun c => goesF c f now).map fun c => { c with used := now }).length ≤ 12 := by rw [List.length_map]; exact Nat.le_trans (List.length_filter_le _ _) hlen
      have c4 := sort_m (L := (L.filter fun c => goesF c f now).map fun c => { c with used := now }) (by omega)
      exact ⟨_, _, _, _, by rw [List.length_map]; omega, by rw [sortF_len]; omega, get_m c1 c2 (fun c hc => goes_v (hd c hc) hh) hlen c4⟩
    · exact ⟨[], [], _, _, by simp, by simp, noG_m (pGetBad2_v c1 c2 h1) rfl gStr⟩
  · exact ⟨[], [], _, _, by simp, by simp, noG_m (pGetBad1_v c1 (by omega)) rfl gStr⟩
end Go.Proofs.YtepnalbefjicgaaGreatDoor.RjP
end

section
namespace Go.Proofs.YtepnalbefjicgaaGreatDoor.PurA
open Go.RowKit Mem Abs Globs HostP HostC PathT Rdy Scan JarP JarQ JarA JarB JarC JarE JarL JarM PolP PolA PolB RjP
open ConC (conI intsV)

abbrev TJR : Nat := 24
abbrev rJ (k n : Nat) (nx : Int) : Blk := .els TJR 2 [ownJ k n nx]
set_option maxRecDepth 100000 in
set_option maxHeartbeats 4000000 in
theorem keepYes_m {c : Cookie} {K : List Cookie} {nx now : Int} (hK : K.length ≤ 100) (h : now < c.expiry) : MCalls Tryz.prog 62 [c.v, .fp [.int .i64 now] 0, .loc 0 0 0] [rJ 1 K.length nx, rC K] (.tup []) [some (rJ 2 (K ++ [c]).length nx), none, some (rC (K ++ [c]))] := by
  have c1 := goesLive_v (c := c) (now := now)
  rw [decide_eq_true h] at c1
  have hml : (K.map Cookie.v).length = K.length := List.length_map _
  refine mfun tb_ok Tryz.func62 rfl Tryz.ntmps62 Tryz.results62 rfl rfl rfl rfl fun N pl => ?_
  repeat' (first | refine zt ?_ | (refine isR ?_; first | refine zo ?_ | refine zk c1 ?_ | refine x_app Cookie.v (a1 := (c)) tb_ok ?_ | refine x_bs tb_ok ?_) | refine awp_split rfl (fun hb => ?_) (fun hb => ?_) | refine x_mret [0, 1, 2] ?_ ?_ | refine x_mnor [0, 1, 2] ?_ ?_ | refine zr ?_ | exact x_le)
  all_goals first | rfl | exact .on (.ren rfl) (.no (.on (.same (nl_map fun _ => rfl)) .nil))
set_option maxRecDepth 100000 in
set_option maxHeartbeats 4000000 in
theorem keepNo_m {c : Cookie} {K : List Cookie} {nx now : Int} (h : ¬ now < c.expiry) : MCalls Tryz.prog 62 [c.v, .fp [.int .i64 now] 0, .loc 0 0 0] [rJ 1 K.length nx, rC K] (.tup []) [some (rJ 1 K.length nx), some (rC K)] := by
  have c1 := goesLive_v (c := c) (now := now)
  rw [decide_eq_false h] at c1
  refine mfun tb_ok Tryz.func62 rfl Tryz.ntmps62 Tryz.results62 rfl rfl rfl rfl fun N pl => ?_
  repeat' (first | refine zt ?_ | (refine isR ?_; first | refine zo ?_ | refine zk c1 ?_ | refine x_bs tb_ok ?_) | refine awp_split rfl (fun hb => ?_) (fun hb => ?_) | refine x_mret [0, 1] ?_ ?_ | refine x_mnor [0, 1] ?_ ?_ | refine zr ?_ | exact x_le)
  all_goals first | rfl | exact .on (.ren rfl) (.on (.same (nl_map fun _ => rfl)) .nil)
abbrev stR (p : Pol) (g : Int) (P : Nat → Bool) (U : List Int) (now nx : Int) (L K : List Cookie) (k : Nat) : S := ⟨[(5, .fp (V.cells (polV p)) 0), (6, .fp (V.cells (conI g P U)) 0), (8, .loc 0 0 0), (9, .loc 1 0 0), (10, .fn (.func 62) [] [.fp [.int .i64 now] 0, .loc 1 0 0]), (18, .fro (L.map Cookie.v)), (19, nV L.length), (20, nV k)], [(0, some (.els TJR 2 [noJ])), (1, some (rJ 2 K.length nx)), (2, some (rC K))], 3, 35⟩
set_option maxRecDepth 100000 in
set_option maxHeartbeats 4000000 in
theorem raw_m {p : Pol} {g : Int} {P : Nat → Bool} {U : List Int} {now nx : Int} {L : List Cookie} (h : OkP p) (hL : L.length ≤ 12) (hd : ∀ c ∈ L, c.domain.length ≤ 4398046511104) (hc : ∀ c ∈ L, isJ c.created = true) : MCallsG Tryz.prog gStr 28 [jarV L nx, polV p, conI g P U, .int .i64 now] [] (ownJ 0 (keptF p P U now L).length nx) [some (rC (keptF p P U now L))] := by
  have hml : (L.map Cookie.v).length = L.length := List.length_map _
  refine mfunG tb_ok Tryz.func28 rfl Tryz.ntmps28 Tryz.results28 rfl rfl rfl rfl fun N pl => ?_
  repeat' (first | refine zt ?_ | (refine isR ?_; first | refine zo ?_ | refine zA ?_ | refine zL ?_ | refine zc1 ?_ | refine zI ?_ | (refine zs1 ?_ ?_ <;> intro hc)) | refine awp_split rfl (fun hb => ?_) (fun hb => ?_) | refine zr ?_ | exact x_le)
  refine awp_nameR 1 0 TC 13 rfl rfl (by decide) rfl ?_
  refine awp_forN (fun k => stR p g P U now nx L (keptF p P U now (L.take k)) k) (fun k => k ≤ L.length) L.length 0 (by exact x_le) (Nat.zero_le _) ?_
  intro k hk
  by_cases hk2 : k < L.length
  · have hx : L[k]? = some L[k] := by simp [hk2]
    have hon := kept_on (p := p) (P := P) (U := U) (now := now) L hx
    have hK : (keptF p P U now (L.take k)).length ≤ 100 := Nat.le_trans (kept_len _) (by simp; omega)
    have hdc := hd _ (List.getElem_mem hk2)
    have c3 := lets_v (g := g) (P := P) (U := U) h hdc
    have c4 := clamped_v h hdc (hc _ (List.getElem_mem hk2))
    generalize L[k] = c at *
    have hm := at_map (f := Cookie.v) hx
    generalize keptF p P U now (L.take (k + 1)) = K1 at *
    generalize keptF p P U now (L.take k) = K at *
    generalize clampF p c = c2 at *
    generalize letsF p P U c = b at *
    cases b with
    | false =>
      rw [if_neg (by simp), List.append_nil] at hon
      subst hon
      repeat' (first | refine zt ?_ | (refine isR ?_; first | refine zo ?_ | refine zk c3 ?_ | refine zA ?_ | refine zL ?_ | refine zc1 ?_ | refine zI ?_ | (refine zs1 ?_ ?_ <;> intro hc)) | refine awp_split rfl (fun hb => ?_) (fun hb => ?_) | refine zr ?_ | exact x_le)
      refine ⟨by omega, hk2, ?_⟩
      exact (by exact x_len [0, 1, 2])
    | true =>
      by_cases hv : now < c2.expiry
      · rw [if_pos ⟨rfl, hv⟩] at hon
        subst hon
        have c5 := keepYes_m (c := c2) (nx := nx) (now := now) hK hv
        repeat' (first | refine zt ?_ | (refine isR ?_; first | refine zo ?_ | refine zk c3 ?_ | refine zk c4 ?_ | refine x_mv [1,2] [4] (c5 _) ?_ | refine x_m0v [1,2] [4] (c5 _) ?_ | refine x_mv [1,2] [4] (c5) ?_ | refine x_m0v [1,2] [4] (c5) ?_ | refine zA ?_ | refine zL ?_ | refine zc1 ?_ | refine zI ?_ | (refine zs1 ?_ ?_ <;> intro hc)) | refine awp_split rfl (fun hb => ?_) (fun hb => ?_) | refine zr ?_ | exact x_le)
        refine ⟨by omega, hk2, ?_⟩
        exact (by exact x_len [0, 1, 4])
      · rw [if_neg (fun q => hv q.2), List.append_nil] at hon
        subst hon
        have c5 := keepNo_m (K := K1) (c := c2) (nx := nx) (now := now) hv
        repeat' (first | refine zt ?_ | (refine isR ?_; first | refine zo ?_ | refine zk c3 ?_ | refine zk c4 ?_ | refine x_mv [1,2] [] (c5 _) ?_ | refine x_m0v [1,2] [] (c5 _) ?_ | refine x_mv [1,2] [] (c5) ?_ | refine x_m0v [1,2] [] (c5) ?_ | refine zA ?_ | refine zL ?_ | refine zc1 ?_ | refine zI ?_ | (refine zs1 ?_ ?_ <;> intro hc)) | refine awp_split rfl (fun hb => ?_) (fun hb => ?_) | refine zr ?_ | exact x_le)
        refine ⟨by omega, hk2, ?_⟩
        exact (by exact x_len [0, 1, 2])
  · obtain rfl : k = L.length := by omega
    rw [List.take_length]
    repeat' (first | refine zt ?_ | (refine isR ?_; first | refine zo ?_ | refine zA ?_ | refine zL ?_ | refine zc1 ?_ | refine zI ?_ | (refine zs1 ?_ ?_ <;> intro hc)) | refine awp_split rfl (fun hb => ?_) (fun hb => ?_) | refine x_mret [2] ?_ ?_ | refine x_mnor [2] ?_ ?_ | refine zr ?_ | exact x_le)
    · rfl
    · exact .on (.same (nl_map fun _ => rfl)) .nil
set_option maxRecDepth 100000 in
set_option maxHeartbeats 4000000 in
theorem right_v {p : Pol} {g : Int} {P : Nat → Bool} {U : List Int} : ACalls Tryz.prog 27 [polV p, conI g P U] (.int .i64 ((codeRight p g U : Nat) : Int)) := by
  have c1 := pcheck_v (p := p)
  have c2 := ConC.check_v (g := g) (P := P) (L := U)
  unfold codeRight
  by_cases h : checkP p = 0
  · rw [if_neg (by rw [h]; simp)]
    rw [h] at c1
    refine fun2 tb_ok Tryz.func27 rfl Tryz.ntmps27 Tryz.results27 rfl fun N => ?_
    repeat' (first | refine zt ?_ | (refine isR ?_; first | refine zo ?_ | refine zk c1 ?_ | refine zk c2 ?_ | refine zc6 ?_ | (refine zs6 ?_ ?_ <;> intro hc)) | refine awp_split rfl (fun hb => ?_) (fun hb => ?_) | refine zr ?_ | exact x_le)
    all_goals first | rfl | (exfalso; omega)
  · rw [if_pos h]
    generalize checkP p = q at *
    refine fun2 tb_ok Tryz.func27 rfl Tryz.ntmps27 Tryz.results27 rfl fun N => ?_
    repeat' (first | refine zt ?_ | (refine isR ?_; first | refine zo ?_ | refine zk c1 ?_ | refine zk c2 ?_ | refine zc6 ?_ | (refine zs6 ?_ ?_ <;> intro hc)) | refine awp_split rfl (fun hb => ?_) (fun hb => ?_) | refine zr ?_ | exact x_le)
    all_goals first | rfl | (exfalso; omega)
set_option maxRecDepth 100000 in
set_option maxHeartbeats 4000000 in
theorem purgeOk_m {p : Pol} {g : Int} {P : Nat → Bool} {U : List Int} {now nx : Int} {L : List Cookie} (h0 : checkJ L nx = 0) (h1 : codeRight p g U = 0) (h2 : isJ now = true) (hd : ∀ c ∈ L, c.domain.length ≤ 4398046511104) : MCallsG Tryz.prog gStr 7 [jarV L nx, polV p, conI g P U, .int .i64 now] [] (.tup [ownJ 0 (keptF p P U now L).length nx, .int .i64 ((L.length : Int) - ((keptF p P U now L).length : Int)), .int .i64 0]) [some (rC (keptF p P U now L))] := by
  have hr : Rj L nx := check_zero.1 h0
  have hlen := hr.len
  have c1 := jcheck_v (L := L) (nx := nx)
  rw [h0] at c1
  have c2 := right_v (p := p) (g := g) (P := P) (U := U)
  rw [h1] at c2
  have c3 := is_v (n := now)
  rw [h2] at c3
  have hp : checkP p = 0 := by
    unfold codeRight at h1
    split at h1
    · rename_i q; exact absurd h1 q
    · rename_i q; simpa using q
  have c4 := raw_m (g := g) (P := P) (U := U) (now := now) (nx := nx) (check_ok hp) hr.len hd fun c hc => by
    have := hr.mom c hc
    unfold badM at this
    cases hq : isJ c.created with
    | true => rfl
    | false => rw [hq] at this; cases this
  have hml : (L.map Cookie.v).length = L.length := List.length_map _
  have hK := kept_len (p := p) (P := P) (U := U) (now := now) L
  generalize keptF p P U now L = K at *
  refine mfunG tb_ok Tryz.func7 rfl Tryz.ntmps7 Tryz.results7 rfl rfl rfl rfl fun N pl => ?_
  repeat' (first | refine zt ?_ | (refine isR ?_; first | refine zo ?_ | refine zk c1 ?_ | refine zk c2 ?_ | refine zk c3 ?_ | refine x_m [] [1] (c4 _) ?_ | refine x_m0 [] [1] (c4 _) ?_ | refine x_m [] [1] (c4) ?_ | refine x_m0 [] [1] (c4) ?_ | refine zA ?_ | refine zL ?_ | refine zc5 ?_ | refine zc6 ?_ | (refine zs5 ?_ ?_ <;> intro hc) | (refine zs6 ?_ ?_ <;> intro hc)) | refine awp_split rfl (fun hb => ?_) (fun hb => ?_) | refine x_mret [1] ?_ ?_ | refine x_mnor [1] ?_ ?_ | refine zr ?_ | exact x_le)
  · rw [← hml]; rfl
  · exact .on (.same (nl_map fun _ => rfl)) .nil
set_option maxRecDepth 100000 in
set_option maxHeartbeats 4000000 in
theorem purgeNo1_v {p : Pol} {g : Int} {P : Nat → Bool} {U : List Int} {now nx e : Int} {L : List Cookie} (c1 : ACalls Tryz.prog 16 [jarV L nx] (.int .i64 e)) (he : e ≠ 0) : ACalls Tryz.prog 7 [jarV L nx, polV p, conI g P U, .int .i64 now] (.tup [noJ, .int .i64 0, .int .i64 e]) := by
  refine fun4 tb_ok Tryz.func7 rfl Tryz.ntmps7 Tryz.results7 rfl fun N => ?_
  repeat' (first | refine zt ?_ | (refine isR ?_; first | refine zo ?_ | refine zk c1 ?_ | refine zA ?_ | refine zL ?_ | refine zc5 ?_ | refine zc6 ?_ | (refine zs5 ?_ ?_ <;> intro hc) | (refine zs6 ?_ ?_ <;> intro hc)) | refine awp_split rfl (fun hb => ?_) (fun hb => ?_) | refine zr ?_ | exact x_le)
  all_goals first | rfl | (exfalso; omega)
set_option maxRecDepth 100000 in
set_option maxHeartbeats 4000000 in
theorem purgeNo2_v {p : Pol} {g : Int} {P : Nat → Bool} {U : List Int} {now nx e : Int} {L : List Cookie} (c1 : ACalls Tryz.prog 16 [jarV L nx] (.int .i64 0)) (c2 : ACalls Tryz.prog 27 [polV p, conI g P U] (.int .i64 e)) (he : e ≠ 0) : ACalls Tryz.prog 7 [jarV L nx, polV p, conI g P U, .int .i64 now] (.tup [noJ, .int .i64 0, .int .i64 e]) := by
  refine fun4 tb_ok Tryz.func7 rfl Tryz.ntmps7 Tryz.results7 rfl fun N => ?_
  repeat' (first | refine zt ?_ | (refine isR ?_; first | refine zo ?_ | refine zk c1 ?_ | refine zk c2 ?_ | refine zA ?_ | refine zL ?_ | refine zc5 ?_ | refine zc6 ?_ | (refine zs5 ?_ ?_ <;> intro hc) | (refine zs6 ?_ ?_ <;> intro hc)) | refine awp_split rfl (fun hb => ?_) (fun hb => ?_) | refine zr ?_ | exact x_le)
  all_goals first | rfl | (exfalso; omega)
set_option maxRecDepth 100000 in
set_option maxHeartbeats 4000000 in
theorem purgeNo3_v {p : Pol} {g : Int} {P : Nat → Bool} {U : List Int} {now nx : Int} {L : List Cookie} (c1 : ACalls Tryz.prog 16 [jarV L nx] (.int .i64 0)) (c2 : ACalls Tryz.prog 27 [polV p, conI g P U] (.int .i64 0)) (c3 : ACalls Tryz.prog 17 [.int .i64 now] (.bool false)) : ACalls Tryz.prog 7 [jarV L nx, polV p, conI g P U, .int .i64 now] (.tup [noJ, .int .i64 0, .int .i64 3]) := by
  refine fun4 tb_ok Tryz.func7 rfl Tryz.ntmps7 Tryz.results7 rfl fun N => ?_
  repeat' (first | refine zt ?_ | (refine isR ?_; first | refine zo ?_ | refine zk c1 ?_ | refine zk c2 ?_ | refine zk c3 ?_ | refine zA ?_ | refine zL ?_ | refine zc5 ?_ | refine zc6 ?_ | (refine zs5 ?_ ?_ <;> intro hc) | (refine zs6 ?_ ?_ <;> intro hc)) | refine awp_split rfl (fun hb => ?_) (fun hb => ?_) | refine zr ?_ | exact x_le)
  all_goals first | rfl | (exfalso; omega)
theorem noP_m {f : Nat} {vs : List Abs.V} {e : Int} (h : ACalls Tryz.prog f vs (.tup [noJ, .int .i64 0, .int .i64 e])) (hn : V.namesL vs = []) : MCalls Tryz.prog f vs [] (.tup [ownJ 0 ([] : List Cookie).length 0, .int .i64 0, .int .i64 e]) [some (rC [])] :=
  acalls_nil (T := TC) (sz := 13) 1 h hn (.agg (.at (by decide) (.same .nil)) (.same (.same .nil))) (by decide)
theorem purge_any {p : Pol} {g : Int} {P : Nat → Bool} {U : List Int} {now nx : Int} {L : List Cookie} (hd : ∀ c ∈ L, c.domain.length ≤ 4398046511104) : ∃ (D : List Cookie) (n3 q e3 : Int), D.length ≤ 100 ∧ MCallsG Tryz.prog gStr 7 [jarV L nx, polV p, conI g P U, .int .i64 now] [] (.tup [ownJ 0 D.length n3, .int .i64 q, .int .i64 e3]) [some (rC D)] := by
  have c1 := jcheck_v (L := L) (nx := nx)
  have c2 := right_v (p := p) (g := g) (P := P) (U := U)
  have c3 := is_v (n := now)
  by_cases h0 : checkJ L nx = 0
  · rw [h0] at c1
    by_cases h1 : codeRight p g U = 0
    · rw [h1] at c2
      by_cases h2 : isJ now = true
      · have hr : Rj L nx := check_zero.1 h0
        have hlen := hr.len
        exact ⟨_, _, _, _, Nat.le_trans (kept_len _) (by omega), purgeOk_m h0 h1 h2 hd⟩
      · have h2 : isJ now = false := by simpa using h2
        rw [h2] at c3
        exact ⟨[], _, _, _, by simp, noP_m (purgeNo3_v c1 c2 c3) rfl gStr⟩
    · exact ⟨[], _, _, _, by simp, noP_m (purgeNo2_v c1 c2 (by omega)) rfl gStr⟩
  · exact ⟨[], _, _, _, by simp, noP_m (purgeNo1_v c1 (by omega)) rfl gStr⟩
def c0 : Cookie := ⟨[], [], [], [], false, false, false, false, 0, 0, 0, 0, 0⟩
set_option maxRecDepth 100000 in
set_option maxHeartbeats 4000000 in
theorem gateBar_v {p : Pol} {g : Int} {P : Nat → Bool} {U : List Int} {c : Cookie} (h : OkP p) (h1 : codeRight p g U = 0) (h2 : isJ c.created = true) (hd : c.domain.length ≤ 4398046511104) (h3 : letsF p P U c = false) : ACallsG Tryz.prog gStr 38 [polV p, conI g P U, c.v] (.tup [c0.v, .int .i64 8]) := by
  have c2 := right_v (p := p) (g := g) (P := P) (U := U)
  rw [h1] at c2
  have c3 := is_v (n := c.created)
  rw [h2] at c3
  have c4 := lets_v (g := g) (P := P) (U := U) h hd
  rw [h3] at c4
  refine funG3 tb_ok Tryz.func38 rfl Tryz.ntmps38 Tryz.results38 rfl fun N => ?_
  repeat' (first | refine zt ?_ | (refine isR ?_; first | refine zo ?_ | refine zk c2 ?_ | refine zk c3 ?_ | refine zk c4 ?_ | refine zc6 ?_ | (refine zs6 ?_ ?_ <;> intro hc)) | refine awp_split rfl (fun hb => ?_) (fun hb => ?_) | refine zr ?_ | exact x_le)
  all_goals first | rfl | (exfalso; omega)
set_option maxRecDepth 100000 in
set_option maxHeartbeats 4000000 in
theorem gateOk_v {p : Pol} {g : Int} {P : Nat → Bool} {U : List Int} {c : Cookie} (h : OkP p) (h1 : codeRight p g U = 0) (h2 : isJ c.created = true) (hd : c.domain.length ≤ 4398046511104) (h3 : letsF p P U c = true) : ACallsG Tryz.prog gStr 38 [polV p, conI g P U, c.v] (.tup [(clampF p c).v, .int .i64 0]) := by
  have c2 := right_v (p := p) (g := g) (P := P) (U := U)
  rw [h1] at c2
  have c3 := is_v (n := c.created)
  rw [h2] at c3
  have c4 := lets_v (g := g) (P := P) (U := U) h hd
  rw [h3] at c4
  have c5 := clamped_v h hd h2
  generalize clampF p c = d at *
  refine funG3 tb_ok Tryz.func38 rfl Tryz.ntmps38 Tryz.results38 rfl fun N => ?_
  repeat' (first | refine zt ?_ | (refine isR ?_; first | refine zo ?_ | refine zk c2 ?_ | refine zk c3 ?_ | refine zk c4 ?_ | refine zk c5 ?_ | refine zc6 ?_ | (refine zs6 ?_ ?_ <;> intro hc)) | refine awp_split rfl (fun hb => ?_) (fun hb => ?_) | refine zr ?_ | exact x_le)
  all_goals first | rfl | (exfalso; omega)
end Go.Proofs.YtepnalbefjicgaaGreatDoor.PurA
end

section
namespace Go.Proofs.YtepnalbefjicgaaGreatDoor.Bld
open Go.RowKit Mem Abs

theorem noEscape (y : Value) (w : World) : (callFunc 104 #[y]).run Tryz.prog w = .ok (.value y) w := by
  rw [run_callFunc_extern Tryz.func104 (by kernel_rfl) (by kernel_rfl) (by kernel_rfl) (e := Extern.AbiNoEscape.same) (by kernel_rfl)]
  rfl
/-- A builder that nothing was written into; and one that holds the bytes of row 1. -/
abbrev fresh : Blk := .els 115 2 [.agg [.nilp, .nils]]
abbrev used (n m : Nat) (p : List UInt8) : Blk := .els 115 2 [.agg [.loc n 0 0, .own m 0 p.length]]
abbrev bytesB (p : List UInt8) : Blk := .els 5 1 (p.map byteT)
set_option maxRecDepth 100000 in
set_option maxHeartbeats 4000000 in
theorem check0 : MCalls Tryz.prog 90 [.loc 0 0 0] [fresh] (.tup []) [some (.els 115 2 [.agg [.loc 0 0 0, .nils]])] := by
  refine mfun tb_ok Tryz.func90 rfl Tryz.ntmps90 Tryz.results90 rfl rfl rfl rfl fun N pl => ?_
  repeat' (first | refine zt ?_ | (refine isR ?_; first | refine zo ?_ | refine x_eqlPN ?_ | refine x_same noEscape ?_ | refine x_toU tb_ok ?_ | refine x_fromU tb_ok ?_ | refine x_neqPS ?_ | refine zc5 ?_ | refine zc6 ?_ | refine zB ?_ | (refine zs5 ?_ ?_ <;> intro hc) | (refine zs6 ?_ ?_ <;> intro hc)) | refine awp_split rfl (fun hb => ?_) (fun hb => ?_) | refine x_mret [0] ?_ ?_ | refine x_mnor [0] ?_ ?_ | refine zr ?_ | exact x_le)
  · rfl
  · exact .on (.ren rfl) .nil
set_option maxRecDepth 100000 in
set_option maxHeartbeats 4000000 in
theorem check1 {p : List UInt8} : MCalls Tryz.prog 90 [.loc 0 0 0] [used 0 1 p, bytesB p] (.tup []) [some (used 0 1 p), some (bytesB p)] := by
  refine mfun tb_ok Tryz.func90 rfl Tryz.ntmps90 Tryz.results90 rfl rfl rfl rfl fun N pl => ?_
  repeat' (first | refine zt ?_ | (refine isR ?_; first | refine zo ?_ | refine x_eqlPL ?_ | refine x_same noEscape ?_ | refine x_toU tb_ok ?_ | refine x_fromU tb_ok ?_ | refine x_neqPS ?_ | refine zc5 ?_ | refine zc6 ?_ | refine zB ?_ | (refine zs5 ?_ ?_ <;> intro hc) | (refine zs6 ?_ ?_ <;> intro hc)) | refine awp_split rfl (fun hb => ?_) (fun hb => ?_) | refine x_mret [0, 1] ?_ ?_ | refine x_mnor [0, 1] ?_ ?_ | refine zr ?_ | exact x_le)
  · rfl
  · exact .on (.ren rfl) (.on (.same (nl_map fun _ => rfl)) .nil)
set_option maxRecDepth 100000 in
set_option maxHeartbeats 4000000 in
theorem write0 {q : List UInt8} (hq : q.length ≤ 140737488355328) : MCalls Tryz.prog 70 [.loc 0 0 0, strT q] [fresh] (.tup [.int .i64 q.length, .nili]) [some (used 0 1 q), some (bytesB q)] := by
  refine mfun tb_ok Tryz.func70 rfl Tryz.ntmps70 Tryz.results70 rfl rfl rfl rfl fun N pl => ?_
  repeat' (first | refine zt ?_ | (refine isR ?_; first | refine zo ?_ | refine x_m [0] [] (check0 _) ?_ | refine x_m0 [0] [] (check0 _) ?_ | refine x_m [0] [] (check0) ?_ | refine x_m0 [0] [] (check0) ?_ | refine x_appS0 tb_ok ?_ | refine zL ?_) | refine awp_split rfl (fun hb => ?_) (fun hb => ?_) | refine x_mret [0, 1] ?_ ?_ | refine x_mnor [0, 1] ?_ ?_ | refine zr ?_ | exact x_le)
  · rfl
  · exact .on (.ren rfl) (.on (.same (nl_map fun _ => rfl)) .nil)
set_option maxRecDepth 100000 in
set_option maxHeartbeats 4000000 in
theorem write1 {p q : List UInt8} (hq : p.length + q.length ≤ 140737488355328) : MCalls Tryz.prog 70 [.loc 0 0 0, strT q] [used 0 1 p, bytesB p] (.tup [.int .i64 q.length, .nili]) [some (used 0 2 (p ++ q)), none, some (bytesB (p ++ q))] := by
  refine mfun tb_ok Tryz.func70 rfl Tryz.ntmps70 Tryz.results70 rfl rfl rfl rfl fun N pl => ?_
  repeat' (first | refine zt ?_ | (refine isR ?_; first | refine zo ?_ | refine x_m [0,1] [] (check1 _) ?_ | refine x_m0 [0,1] [] (check1 _) ?_ | refine x_m [0,1] [] (check1) ?_ | refine x_m0 [0,1] [] (check1) ?_ | refine x_appS tb_ok ?_ | refine zL ?_) | refine awp_split rfl (fun hb => ?_) (fun hb => ?_) | refine x_mret [0, 1, 2] ?_ ?_ | refine x_mnor [0, 1, 2] ?_ ?_ | refine zr ?_ | exact x_le)
  · rfl
  · exact .on (.ren rfl) (.no (.on (.same (nl_map fun _ => rfl)) .nil))
set_option maxRecDepth 100000 in
set_option maxHeartbeats 4000000 in
theorem string0 : MCalls Tryz.prog 71 [.loc 0 0 0] [fresh] (strT []) [some fresh] := by
  refine mfun tb_ok Tryz.func71 rfl Tryz.ntmps71 Tryz.results71 rfl rfl rfl rfl fun N pl => ?_
  repeat' (first | refine zt ?_ | (refine isR ?_; first | refine zo ?_ | refine x_sdata0 ?_ | refine x_ustr0 ?_ | refine zL ?_) | refine awp_split rfl (fun hb => ?_) (fun hb => ?_) | refine x_mret [0] ?_ ?_ | refine x_mnor [0] ?_ ?_ | refine zr ?_ | exact x_le)
  · rfl
  · exact .on (.ren rfl) .nil
set_option maxRecDepth 100000 in
set_option maxHeartbeats 4000000 in
theorem string1 {p : List UInt8} (hp : p ≠ []) : MCalls Tryz.prog 71 [.loc 0 0 0] [used 0 1 p, bytesB p] (strT p) [some (used 0 1 p), none] := by
  refine mfun tb_ok Tryz.func71 rfl Tryz.ntmps71 Tryz.results71 rfl rfl rfl rfl fun N pl => ?_
  repeat' (first | refine zt ?_ | (refine isR ?_; first | refine zo ?_ | refine x_sdata ?_ | refine x_ustr ?_ | refine zL ?_) | refine awp_split rfl (fun hb => ?_) (fun hb => ?_) | refine x_mret [0, 1] ?_ ?_ | refine x_mnor [0, 1] ?_ ?_ | refine zr ?_ | exact x_le)
  · rfl
  · exact .on (.ren rfl) (.no .nil)
end Go.Proofs.YtepnalbefjicgaaGreatDoor.Bld
end
