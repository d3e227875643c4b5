/- Texts of the proof, joined: LineC, GovD, GovL. -/
import Derived.Test.YtpffdbplcgmilaaGreatDoorG9
import Derived.Test.YtpffdbplcgmilaaGreatDoorG15
import Derived.Test.YtpffdbplcgmilaaGreatDoorG21
section
namespace Go.Proofs.YtpffdbplcgmilaaGreatDoor.LineC
open Go.RowKit Mem Abs TreeW WordS PathT SortP SortW SortM SortN LineA LineP LineB Bld

theorem take_on {L : List Cookie} {k : Nat} {c : Cookie} (h : L[k]? = some c) : lineT (L.take (k + 1)) = if k = 0 then ckT c else (lineT (L.take k) ++ [59, 32]) ++ ckT c := by
  obtain ⟨hk, rfl⟩ := List.getElem?_eq_some_iff.1 h
  rw [List.take_succ_eq_append_getElem hk, lineT_snoc]
  by_cases h0 : k = 0
  · subst h0; simp
  · rw [if_neg h0, if_neg (by intro e; have := congrArg List.length e; rw [List.length_take, List.length_nil] at this; omega)]
theorem take_small {L : List Cookie} (h : SmallC L) (k : Nat) : (lineT (L.take k)).length ≤ 2199026401280 := by
  have h1 := lineT_len (L := L.take k) fun c hc => h.2 c (List.mem_of_mem_take hc)
  have h2 : (L.take k).length ≤ 1048576 := by have := h.1; simp; omega
  have h3 : (L.take k).length * 2097155 ≤ 1048576 * 2097155 := Nat.mul_le_mul_right _ h2
  omega
/-- What the writer's loop stands on. -/
def stW (L : List Cookie) : Nat → S
  | 0 => ⟨[(3, .loc 0 0 0), (6, .fro (L.map Cookie.v)), (7, .int .i64 (L.map Cookie.v).length), (8, .int .i64 ((0 : Nat) : Int))], [(0, some fresh)], 1, 25⟩
  | k + 1 => ⟨[(3, .loc 0 0 0), (6, .fro (L.map Cookie.v)), (7, .int .i64 (L.map Cookie.v).length), (8, .int .i64 ((k + 1 : Nat) : Int))], [(0, some (used 0 1 (lineT (L.take (k + 1))))), (1, some (bytesB (lineT (L.take (k + 1)))))], 2, 25⟩
set_option maxRecDepth 100000 in
set_option maxHeartbeats 4000000 in
theorem write_v {L : List Cookie} (hs : SmallC L) : ACalls Tryz.prog 10 [.fro (L.map Cookie.v)] (strT (lineT L)) := by
  have hx : ((L.map Cookie.v).length : Int) = (L.length : Int) := by simp
  have hsz := hs.1
  have hsm := take_small hs
  have hall := hs.2
  have hend : lineT (L.take L.length) = lineT L := by rw [List.take_length]
  have hne : ∀ k, k < L.length → lineT (L.take (k + 1)) ≠ [] := fun k hk => lineT_ne (by intro e; have := congrArg List.length e; rw [List.length_take, List.length_nil] at this; omega)
  have hon := fun k c => take_on (L := L) (k := k) (c := c)
  have hz : lineT (L.take 0) = [] := by simp [lineT]
  rw [← hend]
  have hst : ∀ k, stW L (k + 1) = ⟨[(3, .loc 0 0 0), (6, .fro (L.map Cookie.v)), (7, .int .i64 (L.map Cookie.v).length), (8, .int .i64 ((k + 1 : Nat) : Int))], [(0, some (used 0 1 (lineT (L.take (k + 1))))), (1, some (bytesB (lineT (L.take (k + 1)))))], 2, 25⟩ := fun _ => rfl
  have hst0 : stW L 0 = ⟨[(3, .loc 0 0 0), (6, .fro (L.map Cookie.v)), (7, .int .i64 (L.map Cookie.v).length), (8, .int .i64 ((0 : Nat) : Int))], [(0, some fresh)], 1, 25⟩ := rfl
  clear hs
  generalize hacc : (fun k => lineT (L.take k)) = acc at *
  have ha : ∀ k, lineT (L.take k) = acc k := fun k => by rw [← hacc]
  simp only [ha] at *
  generalize stW L = st at *
  refine fun1 tb_ok Tryz.func10 rfl Tryz.ntmps10 Tryz.results10 rfl fun N => ?_
  repeat' (first | refine zt ?_ | (refine isR ?_; first | refine x_far [3] tb_ok rfl ?_ | refine zn ?_ | refine zA ?_ | refine zL ?_ | refine zc1 ?_ | refine zc3 ?_ | refine zI ?_ | (refine zs1 ?_ ?_ <;> intro hc) | (refine zs3 ?_ ?_ <;> intro hc)) | refine awp_split rfl (fun hb => ?_) (fun hb => ?_) | refine zr ?_ | exact x_le)
  refine awp_forN st (fun k => k ≤ L.length) L.length 0 (by rw [hst0]; exact (by exact x_le)) (Nat.zero_le _) ?_
  intro k hk
  rcases k with _ | k
  · rw [hst0, hst 0]
    by_cases hk2 : 0 < L.length
    · have e1 : (L.map Cookie.v)[0]? = some (L[0]).v := by simp [hk2]
      have e2 : L[0]? = some L[0] := by simp [hk2]
      have e3 := hon 0 L[0] e2
      rw [if_pos rfl] at e3
      have s4 := hall L[0] (List.getElem_mem hk2)
      rw [e3]
      generalize L[0] = c at *
      obtain ⟨c1, c2, c3, c4, c5, c6, c7, c8, c9, c10, c11, c12, c13⟩ := c
      unfold ckT
      dsimp only at *
      have w0 := write0 (q := (c1 ++ [61]) ++ c2) (by simp; omega)
      repeat' (first | refine zt ?_ | (refine isR ?_; first | refine zo ?_ | refine x_m [0] [2] (w0 _) ?_ | refine x_m0 [0] [2] (w0 _) ?_ | refine x_m [0] [2] (w0) ?_ | refine x_m0 [0] [2] (w0) ?_ | refine zA ?_ | refine zL ?_ | refine zc1 ?_ | refine zc3 ?_ | refine zI ?_ | (refine zs1 ?_ ?_ <;> intro hc) | (refine zs3 ?_ ?_ <;> intro hc)) | refine awp_split rfl (fun hb => ?_) (fun hb => ?_) | refine zr ?_ | exact x_le)
      refine ⟨by omega, hk2, ?_⟩
      exact (by exact x_len [0, 2])
    · have hl : L.length = 0 := by omega
      rw [hl, hz]
      have w3 := string0
      repeat' (first | refine zt ?_ | (refine isR ?_; first | refine zo ?_ | refine x_m [0] [] (w3 _) ?_ | refine x_m0 [0] [] (w3 _) ?_ | refine x_m [0] [] (w3) ?_ | refine x_m0 [0] [] (w3) ?_ | refine zA ?_ | refine zL ?_ | refine zc1 ?_ | refine zc3 ?_ | refine zI ?_ | (refine zs1 ?_ ?_ <;> intro hc) | (refine zs3 ?_ ?_ <;> intro hc)) | refine awp_split rfl (fun hb => ?_) (fun hb => ?_) | refine zr ?_ | exact x_le)
      rfl
  · rw [hst k, hst (k + 1)]
    have hlk := hsm (k + 1)
    by_cases hk2 : k + 1 < L.length
    · have e1 : (L.map Cookie.v)[k + 1]? = some (L[k + 1]).v := by simp [hk2]
      have e2 : L[k + 1]? = some L[k + 1] := by simp [hk2]
      have e3 := hon (k + 1) L[k + 1] e2
      rw [if_neg (by omega)] at e3
      have s4 := hall L[k + 1] (List.getElem_mem hk2)
      rw [e3]
      generalize L[k + 1] = c at *
      generalize acc (k + 1) = p at *
      obtain ⟨c1, c2, c3, c4, c5, c6, c7, c8, c9, c10, c11, c12, c13⟩ := c
      unfold ckT
      dsimp only at *
      have w1 := write1 (p := p) (q := [59, 32]) (by simp; omega)
      have w2 := write1 (p := p ++ [59, 32]) (q := (c1 ++ [61]) ++ c2) (by simp; omega)
      repeat' (first | refine zt ?_ | (refine isR ?_; first | refine zo ?_ | refine x_m [0,1] [3] (w1 _) ?_ | refine x_m0 [0,1] [3] (w1 _) ?_ | refine x_m [0,1] [3] (w1) ?_ | refine x_m0 [0,1] [3] (w1) ?_ | refine x_m [0,3] [4] (w2 _) ?_ | refine x_m0 [0,3] [4] (w2 _) ?_ | refine x_m [0,3] [4] (w2) ?_ | refine x_m0 [0,3] [4] (w2) ?_ | refine zA ?_ | refine zL ?_ | refine zc1 ?_ | refine zc3 ?_ | refine zI ?_ | (refine zs1 ?_ ?_ <;> intro hc) | (refine zs3 ?_ ?_ <;> intro hc)) | refine awp_split rfl (fun hb => ?_) (fun hb => ?_) | refine zr ?_ | exact x_le)
      refine ⟨by omega, hk2, ?_⟩
      exact (by exact x_len [0, 4])
    · have hl : L.length = k + 1 := by omega
      have hn := hne k (by omega)
      rw [hl]
      generalize acc (k + 1) = p at *
      have w4 := string1 (p := p) hn
      repeat' (first | refine zt ?_ | (refine isR ?_; first | refine zo ?_ | refine x_m [0,1] [] (w4 _) ?_ | refine x_m0 [0,1] [] (w4 _) ?_ | refine x_m [0,1] [] (w4) ?_ | refine x_m0 [0,1] [] (w4) ?_ | refine zA ?_ | refine zL ?_ | refine zc1 ?_ | refine zc3 ?_ | refine zI ?_ | (refine zs1 ?_ ?_ <;> intro hc) | (refine zs3 ?_ ?_ <;> intro hc)) | refine awp_split rfl (fun hb => ?_) (fun hb => ?_) | refine zr ?_ | exact x_le)
      rfl
end Go.Proofs.YtpffdbplcgmilaaGreatDoor.LineC
end

section
namespace Go.Proofs.YtpffdbplcgmilaaGreatDoor.GovD
open Go.RowKit Mem Abs Globs HostP HostC PathT Rdy Scan JarP JarQ JarA JarB JarC JarE JarK JarL JarM JarT JarI PolP PolA PolB PurA RjP GovP GovA GovB GovC GoesW SortP SortW LineP LineB LineA Bld
open ConC (conI intsV)

theorem few {g : Int} {U : List Int} (h : GrantP.check g U = 0) : U.length ≤ 40 := by
  obtain ⟨n, V, rfl, rfl, _, hV⟩ := ConQ.check_nat h
  exact Nat.le_trans (Nat.le_of_eq (List.length_map _)) (ConP.right_few hV)
theorem own_at {S : List Suffix} {L : List Cookie} {nx : Int} {p : Pol} {g : Int} {P : Nat → Bool} {U : List Int} {t : Int} (h : OkS S L nx p g P U t) : ACalls Tryz.prog 45 [stV S L nx p g P U t] (stV S L nx p g P U t) := by
  have h1 := (SufP.check_rules h.suf).2
  have h2 : Rj L nx := check_zero.1 h.jar
  have h2 := h2.len
  have h3 := (check_ok h.pol).len
  have h4 := few h.con
  exact own_v (by omega) (by omega) (by omega) (by omega)
theorem get_ok {L : List Cookie} {nx now : Int} {f : From} (hd : ∀ c ∈ L, c.domain.length ≤ 140737488355327) (h0 : checkJ L nx = 0) (h1 : readyF f now = 0) :
    ACallsG Tryz.prog gStr 7 [jarV L nx, f.v, .int .i64 now] (.tup [jarV (L.map (useF (fun c => goesF c f now) now)) nx, .fro ((toldF f now L).map Cookie.v), .int .i64 0]) := by
  have c1 := jcheck_v (L := L) (nx := nx)
  rw [h0] at c1
  have c2 := ready_v (f := f) (now := now)
  rw [h1] at c2
  have hr : Rj L nx := check_zero.1 h0
  have hl := hr.len
  refine pGet_v c1 c2 (fun c hc => goes_v (hd c hc) (ready_host h1)) hl (LineA.lineSort_v ?_)
  have := List.length_filter_le (fun c => goesF c f now) L
  rw [List.length_map]
  omega
/-- Texts that are short enough. -/
def SmallT (L : List Cookie) : Prop := ∀ c ∈ L, (c.name.length ≤ 1048576 ∧ c.value.length ≤ 1048576) ∧ c.domain.length ≤ 1048576
theorem SmallT.dom {L : List Cookie} (h : SmallT L) : ∀ c ∈ L, c.domain.length ≤ 4398046511104 := fun c hc => by have := (h c hc).2; omega
theorem told_small {L : List Cookie} {f : From} {now : Int} (h : SmallT L) (hl : L.length ≤ 12) : SmallC (toldF f now L) := by
  refine ⟨Nat.le_trans told_len (by omega), fun c hc => ?_⟩
  obtain ⟨d, hd, _, rfl⟩ := told_at hc
  exact (h d hd).1
theorem live_right {L : List Cookie} {nx now : Int} (h : checkJ L nx = 0) : checkJ (liveF now L) nx = 0 := check_zero.2 (Rj.sub (check_zero.1 h) (live_sub now L))
theorem SmallT.live {L : List Cookie} (h : SmallT L) (now : Int) : SmallT (liveF now L) := fun c hc => h c ((live_sub now L).subset hc)
theorem purged_at {S : List Suffix} {L : List Cookie} {nx : Int} {p : Pol} {g : Int} {P : Nat → Bool} {U : List Int} {t : Int} (h : OkS S L nx p g P U t) (hs : SmallT L) (now : Int) : ACallsG Tryz.prog gStr 43 [stV S L nx p g P U now] (jarV (liveF now L) nx) := by
  have hr : Rj L nx := check_zero.1 h.jar
  have := purged_v (S := S) (nx := nx) (g := g) (P := P) (U := U) (t := now) (check_ok h.pol) hr.len hs.dom (mom_of hr)
  rw [kept_now h.kept] at this
  exact this
abbrev askedL (f : From) (now : Int) (L : List Cookie) : List Cookie := (liveF now L).map (useF (fun c => goesF c f now) now)
theorem ask_ok {S : List Suffix} {L : List Cookie} {nx : Int} {p : Pol} {g : Int} {P : Nat → Bool} {U : List Int} {t now : Int} {f : From} (h : OkS S L nx p g P U t) (hs : SmallT L) (hE : codeE [] f = 0) (hn : isJ now = true) (ht : t ≤ now) (hr : readyF f now = 0) :
    ACallsG Tryz.prog gStr 14 [stV S L nx p g P U t, evV 2 now [] f] (.tup [stV S (askedL f now L) nx p g P U now, strT (lineT (toldF f now L)), .int .i64 0]) := by
  have ce := echeck_v (k := 2) (named2_v (now := now) (f := f)) (by decide) (by decide)
  rw [hE] at ce
  have cp := purged_at h hs now
  have cg := get_ok (L := liveF now L) (f := f) (fun c hc => by have := ((hs.live now) c hc).2; omega) (live_right h.jar) hr
  have cw := LineC.write_v (told_small (f := f) (now := now) hs (Rj.len (check_zero.1 h.jar)))
  rw [show toldF f now (liveF now L) = toldF f now L by unfold toldF; rw [go_live]] at cg
  exact apply_ok ce hn ht (own_at h) (do2_m cp (askOk_m cg cw))
theorem ask_bad {S : List Suffix} {L : List Cookie} {nx : Int} {p : Pol} {g : Int} {P : Nat → Bool} {U : List Int} {t now : Int} {f : From} (h : OkS S L nx p g P U t) (hs : SmallT L) (hE : codeE [] f = 0) (hn : isJ now = true) (ht : t ≤ now) (hr : readyF f now ≠ 0) :
    ACallsG Tryz.prog gStr 14 [stV S L nx p g P U t, evV 2 now [] f] (.tup [st0, strT [], .int .i64 (readyF f now)]) := by
  have ce := echeck_v (k := 2) (named2_v (now := now) (f := f)) (by decide) (by decide)
  rw [hE] at ce
  have cp := purged_at h hs now
  have c1 := jcheck_v (L := liveF now L) (nx := nx)
  rw [live_right h.jar] at c1
  have cg := pGetBad2_v c1 (ready_v (f := f) (now := now)) hr
  exact apply_bad ce hn ht (own_at h) (do2_m cp (askNo_m (cg gStr) hr)) hr
theorem okS : OkS S0 [] 0 pR 1000 PA UA 1000 := code_ok (by kernel_rfl)
theorem ok1 : OkS S0 [k1] 1 pR 1000 PA UA 1000 := code_ok (by kernel_rfl)
abbrev fA : From := ⟨([97, 46, 115, 104, 111, 112, 46, 99, 111, 109] : List UInt8), ([47, 99, 97, 114, 116, 47, 120] : List UInt8), true, false, false⟩
abbrev k2 : Cookie := ⟨([105, 100] : List UInt8), ([55] : List UInt8), ([115, 104, 111, 112, 46, 99, 111, 109] : List UInt8), ([47, 99, 97, 114, 116] : List UInt8), false, true, false, false, 0, 1100, 1000, 1001, 0⟩
theorem ok2 : OkS S0 [k2] 1 pR 1000 PA UA 1001 := code_ok (by kernel_rfl)
theorem ok3 : OkS S0 [] 1 pR 1000 PA UA 1100 := code_ok (by kernel_rfl)
theorem sm0 : SmallT [] := fun c hc => by cases hc
theorem sm1 : SmallT [k1] := fun c hc => by obtain rfl := List.mem_singleton.1 hc; exact ⟨⟨by decide, by decide⟩, by decide⟩
theorem sm2 : SmallT [k2] := fun c hc => by obtain rfl := List.mem_singleton.1 hc; exact ⟨⟨by decide, by decide⟩, by decide⟩
theorem p1 : ACallsG Tryz.prog gStr 14 [stV S0 [] 0 pR 1000 PA UA 1000, evV 1 1000 tX fX] (.tup [stV S0 [k1] 1 pR 1000 PA UA 1000, strT [], .int .i64 0]) := by
  have ce := echeck_v (k := 1) (named1_v (now := 1000) (s := tX) (f := fX)) (by decide) (by decide)
  rw [show codeE tX fX = 0 by decide] at ce
  exact apply_ok ce rfl (by decide) (own_at okS) do1_m
theorem p2 : ACallsG Tryz.prog gStr 14 [stV S0 [k1] 1 pR 1000 PA UA 1000, evV 2 1001 [] fA] (.tup [stV S0 [k2] 1 pR 1000 PA UA 1001, strT ([105, 100, 61, 55] : List UInt8), .int .i64 0]) := by
  have h := ask_ok (now := 1001) (f := fA) ok1 sm1 (by decide) rfl (by decide) (by kernel_rfl)
  rw [show askedL fA 1001 [k1] = [k2] by kernel_rfl, show lineT (toldF fA 1001 [k1]) = ([105, 100, 61, 55] : List UInt8) by kernel_rfl] at h
  exact h
theorem tick_at {S : List Suffix} {L : List Cookie} {nx : Int} {p : Pol} {g : Int} {P : Nat → Bool} {U : List Int} {t now : Int} (h : OkS S L nx p g P U t) (hs : SmallT L) (hn : isJ now = true) (ht : t ≤ now) :
    ACallsG Tryz.prog gStr 14 [stV S L nx p g P U t, evV 5 now [] f0] (.tup [stV S (liveF now L) nx p g P U now, strT [], .int .i64 0]) := by
  have ce := echeck_v (k := 5) (named5_v (now := now)) (by decide) (by decide)
  rw [show codeE [] f0 = 0 by decide] at ce
  exact apply_ok ce hn ht (own_at h) (do5_m (purged_at h hs now))
theorem tick_no {S : List Suffix} {L : List Cookie} {nx : Int} {p : Pol} {g : Int} {P : Nat → Bool} {U : List Int} {t now : Int} (h : OkS S L nx p g P U t) (hn : isJ now = true) (ht : now < t) :
    ACalls Tryz.prog 14 [stV S L nx p g P U t, evV 5 now [] f0] (.tup [st0, strT [], .int .i64 4]) := by
  have ce := echeck_v (k := 5) (named5_v (now := now)) (by decide) (by decide)
  rw [show codeE [] f0 = 0 by decide] at ce
  exact apply_no3 ce hn ht (own_at h)
theorem p3 : ACallsG Tryz.prog gStr 14 [stV S0 [k2] 1 pR 1000 PA UA 1001, evV 5 999 [] f0] (.tup [st0, strT [], .int .i64 4]) := tick_no ok2 rfl (by decide) gStr
theorem p4 : ACallsG Tryz.prog gStr 14 [stV S0 [k2] 1 pR 1000 PA UA 1001, evV 5 1100 [] f0] (.tup [stV S0 [] 1 pR 1000 PA UA 1100, strT [], .int .i64 0]) := by
  have h := tick_at (now := 1100) ok2 sm2 rfl (by decide)
  rw [show liveF 1100 [k2] = [] by kernel_rfl] at h
  exact h
theorem p5 : ACallsG Tryz.prog gStr 14 [stV S0 [] 1 pR 1000 PA UA 1100, evV 2 1100 [] fA] (.tup [stV S0 [] 1 pR 1000 PA UA 1100, strT [], .int .i64 0]) := by
  have h := ask_ok (now := 1100) (f := fA) ok3 sm0 (by decide) rfl (by decide) (by kernel_rfl)
  rw [show askedL fA 1100 [] = [] by kernel_rfl, show lineT (toldF fA 1100 []) = [] by kernel_rfl] at h
  exact h
theorem gc0 : ACallsG Tryz.prog gStr 13 [stV S0 [] 0 pR 1000 PA UA 1000] (.int .i64 0) := by
  have h := gcheck_v (S := S0) (L := []) (nx := 0) (p := pR) (g := 1000) (P := PA) (U := UA) (t := 1000) sm0.dom
  rw [show codeS S0 [] 0 pR 1000 PA UA 1000 = 0 by kernel_rfl] at h
  exact h
theorem gc1 : ACallsG Tryz.prog gStr 13 [stV S0 [k1] 1 pR 1000 PA UA 1000] (.int .i64 0) := by
  have h := gcheck_v (S := S0) (L := [k1]) (nx := 1) (p := pR) (g := 1000) (P := PA) (U := UA) (t := 1000) sm1.dom
  rw [show codeS S0 [k1] 1 pR 1000 PA UA 1000 = 0 by kernel_rfl] at h
  exact h
/-- The state at the beginning, its jar nil. -/
abbrev bV : Abs.V := .agg (.fro (S0.map Suffix.v) :: .nils :: (stC S0 [] 0 pR 1000 PA UA 1000).drop 2)
theorem gcB : ACallsG Tryz.prog gStr 13 [bV] (.int .i64 0) := gc0.nf rfl
theorem owB : ACalls Tryz.prog 45 [bV] (stV S0 [] 0 pR 1000 PA UA 1000) := (own_at okS).nf rfl
set_option maxRecDepth 100000 in
set_option maxHeartbeats 4000000 in
theorem rules_v : ACalls Tryz.prog 48 [] (polV pR) := by
  refine fun0 tb_ok Tryz.func48 rfl Tryz.ntmps48 Tryz.results48 fun N => ?_
  repeat' (first | refine zt ?_ | (refine isR ?_; first | refine zo ?_ | refine x_bs tb_ok ?_) | refine awp_split rfl (fun hb => ?_) (fun hb => ?_) | refine zr ?_ | exact x_le)
  all_goals rfl
set_option maxRecDepth 100000 in
set_option maxHeartbeats 4000000 in
theorem agreed_v : ACalls Tryz.prog 49 [] (conI 1000 PA UA) := by
  refine fun0 tb_ok Tryz.func49 rfl Tryz.ntmps49 Tryz.results49 fun N => ?_
  repeat' (first | refine zt ?_ | (refine isR ?_; first | refine zo ?_ | refine x_bs tb_ok ?_) | refine awp_split rfl (fun hb => ?_) (fun hb => ?_) | refine zr ?_ | exact x_le)
  all_goals rfl
set_option maxRecDepth 100000 in
set_option maxHeartbeats 4000000 in
theorem sufs_v : ACalls Tryz.prog 47 [] (.fro (S0.map Suffix.v)) := by
  refine fun0 tb_ok Tryz.func47 rfl Tryz.ntmps47 Tryz.results47 fun N => ?_
  repeat' (first | refine zt ?_ | (refine isR ?_; first | refine zo ?_ | refine x_bs tb_ok ?_) | refine awp_split rfl (fun hb => ?_) (fun hb => ?_) | refine zr ?_ | exact x_le)
  all_goals rfl
set_option maxRecDepth 100000 in
set_option maxHeartbeats 4000000 in
theorem begin_v : ACalls Tryz.prog 16 [] bV := by
  have c1 := rules_v
  have c2 := agreed_v
  have c3 := sufs_v
  refine fun0 tb_ok Tryz.func16 rfl Tryz.ntmps16 Tryz.results16 fun N => ?_
  repeat' (first | refine zt ?_ | (refine isR ?_; first | refine zo ?_ | refine zk c1 ?_ | refine zk c2 ?_ | refine zk c3 ?_) | refine awp_split rfl (fun hb => ?_) (fun hb => ?_) | refine zr ?_ | exact x_le)
  all_goals rfl
set_option maxRecDepth 100000 in
set_option maxHeartbeats 4000000 in
theorem shopX_v : ACalls Tryz.prog 15 [] fX.v := by
  refine fun0 tb_ok Tryz.func15 rfl Tryz.ntmps15 Tryz.results15 fun N => ?_
  repeat' (first | refine zt ?_ | (refine isR ?_; first | refine zo ?_) | refine awp_split rfl (fun hb => ?_) (fun hb => ?_) | refine zr ?_ | exact x_le)
  rfl
set_option maxRecDepth 100000 in
set_option maxHeartbeats 4000000 in
theorem tickE_v {n : Int} : ACalls Tryz.prog 18 [.int .i64 n] (evN 5 n [] f0) := by
  refine fun1 tb_ok Tryz.func18 rfl Tryz.ntmps18 Tryz.results18 rfl fun N => ?_
  repeat' (first | refine zt ?_ | (refine isR ?_; first | refine zo ?_) | refine awp_split rfl (fun hb => ?_) (fun hb => ?_) | refine zr ?_ | exact x_le)
  rfl
abbrev outT : List UInt8 := [10, 105, 100, 61, 55, 10, 101, 114, 114, 111, 114, 32, 52, 10, 10, 10]
set_option maxRecDepth 100000 in
set_option maxHeartbeats 4000000 in
theorem play_c : ACallsG Tryz.prog gStr 17 [bV, .fro [evN 1 1000 tX fX, evN 2 1001 [] fA, evN 5 999 [] f0, evN 5 1100 [] f0, evN 2 1100 [] fA]] (.tup [stV S0 [] 1 pR 1000 PA UA 1100, strT outT, .int .i64 0]) := by
  have c0 := gcB
  have c1 := owB
  have q1 : ACallsG Tryz.prog gStr _ [stV S0 [] 0 pR 1000 PA UA 1000, evN 1 1000 tX fX] _ := p1.nf rfl
  have q2 : ACallsG Tryz.prog gStr _ [stV S0 [k1] 1 pR 1000 PA UA 1000, evN 2 1001 [] fA] _ := p2.nf rfl
  have q3 : ACallsG Tryz.prog gStr _ [stV S0 [k2] 1 pR 1000 PA UA 1001, evN 5 999 [] f0] _ := p3.nf rfl
  have q4 : ACallsG Tryz.prog gStr _ [stV S0 [k2] 1 pR 1000 PA UA 1001, evN 5 1100 [] f0] _ := p4.nf rfl
  have q5 : ACallsG Tryz.prog gStr _ [stV S0 [] 1 pR 1000 PA UA 1100, evN 2 1100 [] fA] _ := p5.nf rfl
  have ci : ACallsG Tryz.prog gStr 50 [.int .i64 4] (strT [52]) := by
    have h := itoa_v (n := 4)
    rw [show digits 4 = [52] by kernel_rfl] at h
    exact h
  have w1 := write0 (q := [10]) (by decide)
  have w2 := write1 (p := [10]) (q := [105, 100, 61, 55, 10]) (by decide)
  have w3 := write1 (p := [10, 105, 100, 61, 55, 10]) (q := [101, 114, 114, 111, 114, 32, 52, 10]) (by decide)
  have w4 := write1 (p := [10, 105, 100, 61, 55, 10, 101, 114, 114, 111, 114, 32, 52, 10]) (q := [10]) (by decide)
  have w5 := write1 (p := [10, 105, 100, 61, 55, 10, 101, 114, 114, 111, 114, 32, 52, 10, 10]) (q := [10]) (by decide)
  have w6 := string1 (p := outT) (by decide)
  have hl : ([evN 1 1000 tX fX, evN 2 1001 [] fA, evN 5 999 [] f0, evN 5 1100 [] f0, evN 2 1100 [] fA] : List Abs.V).length = 5 := rfl
  refine funG2 tb_ok Tryz.func17 rfl Tryz.ntmps17 Tryz.results17 rfl fun N => ?_
  repeat' (first | with_reducible refine rounds_on ?_ | with_reducible refine awp_rounds 6 ?_ | refine zt ?_ | (refine isR ?_; first | refine x_far [2] tb_ok rfl ?_ | refine zn ?_ | refine zk c0 ?_ | refine zk c1 ?_ | refine zk q1 ?_ | refine zk q2 ?_ | refine zk q3 ?_ | refine zk q4 ?_ | refine zk q5 ?_ | refine zk ci ?_ | refine x_m [2] [5] (w1 _) ?_ | refine x_m0 [2] [5] (w1 _) ?_ | refine x_m [2] [5] (w1) ?_ | refine x_m0 [2] [5] (w1) ?_ | refine x_m [2,5] [8] (w2 _) ?_ | refine x_m0 [2,5] [8] (w2 _) ?_ | refine x_m [2,5] [8] (w2) ?_ | refine x_m0 [2,5] [8] (w2) ?_ | refine x_m [2,8] [11] (w3 _) ?_ | refine x_m0 [2,8] [11] (w3 _) ?_ | refine x_m [2,8] [11] (w3) ?_ | refine x_m0 [2,8] [11] (w3) ?_ | refine x_m [2,11] [14] (w4 _) ?_ | refine x_m0 [2,11] [14] (w4 _) ?_ | refine x_m [2,11] [14] (w4) ?_ | refine x_m0 [2,11] [14] (w4) ?_ | refine x_m [2,14] [17] (w5 _) ?_ | refine x_m0 [2,14] [17] (w5 _) ?_ | refine x_m [2,14] [17] (w5) ?_ | refine x_m0 [2,14] [17] (w5) ?_ | refine x_m [2,17] [] (w6 _) ?_ | refine x_m0 [2,17] [] (w6 _) ?_ | refine x_m [2,17] [] (w6) ?_ | refine x_m0 [2,17] [] (w6) ?_ | refine zA ?_ | refine zL ?_ | refine zc1 ?_ | refine zc3 ?_ | refine zc5 ?_ | refine zc6 ?_ | refine zI ?_ | (refine zs1 ?_ ?_ <;> intro hc) | (refine zs3 ?_ ?_ <;> intro hc) | (refine zs5 ?_ ?_ <;> intro hc) | (refine zs6 ?_ ?_ <;> intro hc)) | refine awp_split rfl (fun hb => ?_) (fun hb => ?_) | refine zr ?_ | exact x_le)
  all_goals first | rfl | (exfalso; omega)
set_option maxRecDepth 100000 in
set_option maxHeartbeats 4000000 in
theorem begun_v : ACallsG Tryz.prog gStr 6 [] (.bool true) := by
  have b0 := begin_v
  have b1 := shopX_v
  have b2 := tickE_v (n := 999)
  have b3 := tickE_v (n := 1100)
  have x1 : ACallsG Tryz.prog gStr 5 [bV, evN 1 1000 tX fX] _ := (Apply_ok gc0 p1).nf rfl
  have x2 : ACallsG Tryz.prog gStr 5 [stV S0 [k1] 1 pR 1000 PA UA 1000, evN 2 1001 [] fA] _ := (Apply_ok gc1 p2).nf rfl
  have x3 : ACallsG Tryz.prog gStr 5 [stV S0 [k1] 1 pR 1000 PA UA 1000, evN 5 999 [] f0] _ := (Apply_bad gc1 (tick_no ok1 rfl (by decide) gStr)).nf rfl
  have x4 := play_c
  have x5 := gcB
  have e1 : k1.expiry = 1100 := rfl
  have e2 : k2.used = 1001 := rfl
  refine funG0 tb_ok Tryz.func6 rfl Tryz.ntmps6 Tryz.results6 fun N => ?_
  repeat' (first | refine zt ?_ | (refine isR ?_; first | refine zo ?_ | refine zk b0 ?_ | refine zk b1 ?_ | refine zk b2 ?_ | refine zk b3 ?_ | refine zk x1 ?_ | refine zk x2 ?_ | refine zk x3 ?_ | refine zk x4 ?_ | refine zk x5 ?_ | refine x_bs tb_ok ?_ | refine zL ?_ | refine zc5 ?_ | refine zI ?_ | (refine zs5 ?_ ?_ <;> intro hc)) | refine awp_split rfl (fun hb => ?_) (fun hb => ?_) | refine zr ?_ | exact x_le)
  all_goals first | rfl | (exfalso; omega) | (exfalso; simp_all; done)
end Go.Proofs.YtpffdbplcgmilaaGreatDoor.GovD
end

section
namespace Go.Proofs.YtpffdbplcgmilaaGreatDoor.GovL
open Go.RowKit Mem Abs Globs HostP HostC PathT Rdy Scan JarP JarQ JarA JarB JarC JarE PolP PolA PolB GovP GovA GovB GovD GoesW SortP SortW LineP LineB
open ConC (conI intsV)

set_option maxRecDepth 100000 in
set_option maxHeartbeats 4000000 in
theorem no_law {S : List Suffix} {L : List Cookie} {nx : Int} {p : Pol} {g : Int} {P : Nat → Bool} {U : List Int} {t now e : Int} {f : From} (c : ACallsG Tryz.prog gStr 5 [stV S L nx p g P U t, evV 2 now [] f] (.tup [st0, strT [], .int .i64 e])) (he : e ≠ 0) :
    ACallsG Tryz.prog gStr 3 [stV S L nx p g P U t, f.v, .int .i64 now] (.bool true) := by
  have c1 : ACallsG Tryz.prog gStr _ [stV S L nx p g P U t, evN 2 now [] f] _ := c.nf rfl
  have c2 := begun_v
  refine funG3 tb_ok Tryz.func3 rfl Tryz.ntmps3 Tryz.results3 rfl fun N => ?_
  repeat' (first | refine zt ?_ | (refine isR ?_; first | refine zo ?_ | refine zk c1 ?_ | refine zk c2 ?_ | refine zA ?_ | refine zL ?_ | refine zc1 ?_ | refine zc5 ?_ | refine zc6 ?_ | refine zI ?_ | (refine zs1 ?_ ?_ <;> intro hc) | (refine zs5 ?_ ?_ <;> intro hc) | (refine zs6 ?_ ?_ <;> intro hc)) | refine awp_split rfl (fun hb => ?_) (fun hb => ?_) | refine zr ?_ | exact x_le)
  all_goals first | rfl | (exfalso; omega) | (exfalso; simp_all; done)
set_option maxRecDepth 100000 in
set_option maxHeartbeats 4000000 in
theorem yes_law {S : List Suffix} {L L2 L3 Z : List Cookie} {nx : Int} {p : Pol} {g : Int} {P : Nat → Bool} {U : List Int} {t now : Int} {f : From} {T : List UInt8} (c : ACallsG Tryz.prog gStr 5 [stV S L nx p g P U t, evV 2 now [] f] (.tup [stV S L2 nx p g P U now, strT T, .int .i64 0]))
    (cg : ACallsG Tryz.prog gStr 7 [jarV L nx, f.v, .int .i64 now] (.tup [jarV L3 nx, .fro (Z.map Cookie.v), .int .i64 0])) (cw : ACalls Tryz.prog 10 [.fro (Z.map Cookie.v)] (strT T)) (hZ : Z.length ≤ 100)
    (h1 : ∀ z ∈ Z, ACallsG Tryz.prog gStr 8 [polV p, conI g P U, z.v] (.bool true)) (h2 : ∀ z ∈ Z, ACallsG Tryz.prog gStr 9 [z.v, f.v, .int .i64 now] (.bool true)) :
    ACallsG Tryz.prog gStr 3 [stV S L nx p g P U t, f.v, .int .i64 now] (.bool true) := by
  have c1 : ACallsG Tryz.prog gStr _ [stV S L nx p g P U t, evN 2 now [] f] _ := c.nf rfl
  have c2 := begun_v
  have hml : (Z.map Cookie.v).length = Z.length := List.length_map _
  refine funG3 tb_ok Tryz.func3 rfl Tryz.ntmps3 Tryz.results3 rfl fun N => ?_
  repeat' (first | refine zt ?_ | (refine isR ?_; first | refine zo ?_ | refine zk c1 ?_ | refine zk c2 ?_ | refine zk cg ?_ | refine zA ?_ | refine zL ?_ | refine zc1 ?_ | refine zc5 ?_ | refine zc6 ?_ | refine zI ?_ | (refine zs1 ?_ ?_ <;> intro hc) | (refine zs5 ?_ ?_ <;> intro hc) | (refine zs6 ?_ ?_ <;> intro hc)) | refine awp_split rfl (fun hb => ?_) (fun hb => ?_) | refine zr ?_ | exact x_le)
  refine awp_for (fun k => ⟨[(2, .int .i64 now), (3, .fp (stC S L nx p g P U t) 0), (4, .fp f.v.cells 0), (8, strT T), (11, .fro (Z.map Cookie.v)), (12, .int .i64 0), (13, nV k)], [], 0, 72⟩) (fun k => k ≤ Z.length) Z.length 0 (by exact x_le) (Nat.zero_le _) ?_
  intro k hk
  by_cases hk2 : k < Z.length
  · have hx : Z[k]? = some Z[k] := by simp [hk2]
    have d1 := h1 _ (List.getElem_mem hk2)
    have d2 := h2 _ (List.getElem_mem hk2)
    generalize Z[k] = z at *
    have hm := at_map (f := Cookie.v) hx
    repeat' (first | refine zt ?_ | (refine isR ?_; first | refine zo ?_ | refine zk d1 ?_ | refine zk d2 ?_ | refine zA ?_ | refine zL ?_ | refine zc1 ?_ | refine zc5 ?_ | refine zc6 ?_ | refine zI ?_ | (refine zs1 ?_ ?_ <;> intro hc) | (refine zs5 ?_ ?_ <;> intro hc) | (refine zs6 ?_ ?_ <;> intro hc)) | refine awp_split rfl (fun hb => ?_) (fun hb => ?_) | refine zr ?_ | exact x_le)
    exact ⟨by omega, hk2, (by exact x_le)⟩
  · obtain rfl : k = Z.length := by omega
    repeat' (first | refine zt ?_ | (refine isR ?_; first | refine zo ?_ | refine zk cw ?_ | refine zA ?_ | refine zL ?_ | refine zc1 ?_ | refine zc5 ?_ | refine zc6 ?_ | refine zI ?_ | (refine zs1 ?_ ?_ <;> intro hc) | (refine zs5 ?_ ?_ <;> intro hc) | (refine zs6 ?_ ?_ <;> intro hc)) | refine awp_split rfl (fun hb => ?_) (fun hb => ?_) | refine zr ?_ | exact x_le)
    all_goals first | rfl | (exfalso; omega) | (exfalso; simp_all; done)
theorem law {S : List Suffix} {L : List Cookie} {nx : Int} {p : Pol} {g : Int} {P : Nat → Bool} {U : List Int} {t now : Int} {f : From} (hs : SmallT L) : ACallsG Tryz.prog gStr 3 [stV S L nx p g P U t, f.v, .int .i64 now] (.bool true) := by
  have hC := gcheck_v (S := S) (nx := nx) (p := p) (g := g) (P := P) (U := U) (t := t) hs.dom
  by_cases h0 : codeS S L nx p g P U t = 0
  · have ok := code_ok h0
    rw [h0] at hC
    have ce := echeck_v (k := 2) (named2_v (now := now) (f := f)) (by decide) (by decide)
    by_cases h1 : codeE [] f = 0
    · rw [h1] at ce
      by_cases h2 : isJ now = true
      · by_cases h3 : t ≤ now
        · by_cases h4 : readyF f now = 0
          · have hr : JarQ.Rj L nx := check_zero.1 ok.jar
            have hlen := hr.len
            refine yes_law (Apply_ok hC (ask_ok ok hs h1 h2 h3 h4)) (get_ok (fun c hc => by have := (hs c hc).2; omega) ok.jar h4) (LineC.write_v (told_small hs hlen)) (Nat.le_trans told_len (by omega)) (fun z hz => ?_) fun z hz => ?_
            · obtain ⟨c, hc, _, rfl⟩ := told_at hz
              have := lets_v (c := { c with used := now }) (g := g) (P := P) (U := U) (check_ok ok.pol) (hs.dom c hc)
              rw [lets_used, (kept_all ok.kept c hc).1] at this
              exact this
            · obtain ⟨c, hc, hg, rfl⟩ := told_at hz
              have := goes_v (c := { c with used := now }) (f := f) (now := now) (by have := (hs c hc).2; show c.domain.length ≤ _; omega) (RjP.ready_host h4)
              rw [goes_used, hg] at this
              exact this
          · exact no_law (Apply_bad hC (ask_bad ok hs h1 h2 h3 h4)) h4
        · exact no_law (Apply_bad hC (apply_no3 ce h2 (by omega) (own_at ok) gStr)) (by decide)
      · exact no_law (Apply_bad hC (apply_no2 ce (by simpa using h2) (own_at ok) gStr)) (by decide)
    · exact no_law (Apply_bad hC (apply_no1 ce (by omega) (own_at ok) gStr)) (by omega)
  · exact no_law (Apply_no hC (by omega)) (by omega)
end Go.Proofs.YtpffdbplcgmilaaGreatDoor.GovL
end
