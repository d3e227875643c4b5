/- Texts of the proof, joined: GoesW, LineP, LineB, JarU. -/
import Derived.Test.YtoehdmbogdpncaaGreatDoorG8
import Derived.Test.YtoehdmbogdpncaaGreatDoorG17
import Derived.Test.YtoehdmbogdpncaaGreatDoorG6
import Derived.Test.YtoehdmbogdpncaaGreatDoorG12
import Derived.Test.YtoehdmbogdpncaaGreatDoorG16
import Derived.Test.YtoehdmbogdpncaaGreatDoorG14
section
namespace Go.Proofs.YtoehdmbogdpncaaGreatDoor.GoesW
open Go.RowKit Mem Abs TreeW HostP HostO HostA HostB HostC HostD WordP WordS Globs PathT

theorem last_ends (o : List UInt8) : endsB o [47] = decide (o.getLast? = some 47) := by
  rw [Bool.eq_iff_iff, endsB_iff, decide_eq_true_eq, List.getLast?_eq_some_iff]
set_option maxRecDepth 100000 in
set_option maxHeartbeats 4000000 in
theorem path_v {p o : List UInt8} : ACalls Tryz.prog 71 [strT p, strT o] (.bool (pathF p o)) := by
  have c1 := cutPrefix_v (l := p) (m := o)
  have c2 := hasSuffix_v (l := o) (m := [47])
  rw [last_ends] at c2
  cases hp : pre p o with
  | false =>
    have e : cutP p o = (p, false) := by unfold cutP; rw [hp]; rfl
    have e2 : pathF p o = false := by unfold pathF; rw [hp]; rfl
    rw [e] at c1
    rw [e2]
    refine fun2 tb_ok Tryz.func71 rfl Tryz.ntmps71 Tryz.results71 rfl fun N => ?_
    repeat' (first | refine zt ?_ | (refine isR ?_; first | refine zo ?_ | refine zk c1 ?_ | refine zc5 ?_ | refine zI ?_ | (refine zs5 ?_ ?_ <;> intro hc)) | refine awp_split rfl (fun hb => ?_) (fun hb => ?_) | refine zr ?_ | exact x_le)
    rfl
  | true =>
    have e : cutP p o = (p.drop o.length, true) := by unfold cutP; rw [hp]; rfl
    have e2 : pathF p o = (decide (p.drop o.length = []) || decide (o.getLast? = some 47) || decide ((p.drop o.length).head? = some 47)) := by unfold pathF; rw [hp]; rfl
    rw [e] at c1
    rw [e2]
    dsimp only at c1
    generalize p.drop o.length = x at *
    generalize decide (o.getLast? = some 47) = z at *
    cases x with
    | nil =>
      refine fun2 tb_ok Tryz.func71 rfl Tryz.ntmps71 Tryz.results71 rfl fun N => ?_
      repeat' (first | refine zt ?_ | (refine isR ?_; first | refine zo ?_ | refine zk c1 ?_ | refine zc5 ?_ | refine zI ?_ | (refine zs5 ?_ ?_ <;> intro hc)) | refine awp_split rfl (fun hb => ?_) (fun hb => ?_) | refine zr ?_ | exact x_le)
      rfl
    | cons b x =>
      have e3 : (b :: x)[(0 : Int).toNat]? = some b := rfl
      have e4 : decide ((b :: x).head? = some 47) = decide ((b.toNat : Int) = 47) := by
        have := byte_eq (c := b) (d := 47)
        simp [this]
      have hnn : ¬ (b :: x : List UInt8) = [] := by simp
      have hb := b.toNat_lt
      rw [e4, decide_eq_false hnn]
      refine fun2 tb_ok Tryz.func71 rfl Tryz.ntmps71 Tryz.results71 rfl fun N => ?_
      repeat' (first | refine zt ?_ | (refine isR ?_; first | refine zo ?_ | refine zk c1 ?_ | refine x_callS (c2 _) (fun hb => ?_) (fun hb => ?_) | refine x_callS (c2) (fun hb => ?_) (fun hb => ?_) | refine zc5 ?_ | refine zI ?_ | (refine zs5 ?_ ?_ <;> intro hc)) | refine awp_split rfl (fun hb => ?_) (fun hb => ?_) | refine zr ?_ | exact x_le)
      all_goals (show V.bool _ = V.bool _; simp [*])
set_option maxRecDepth 100000 in
set_option maxHeartbeats 4000000 in
theorem pathMatch_v {p o : List UInt8} : ACalls Tryz.prog 67 [strT p, strT o] (.bool (pathF p o)) := ACalls.lim fun hl => by
  obtain ⟨hl1, hl⟩ := TreeW.str_lim hl
  obtain ⟨hl2, _⟩ := TreeW.str_lim hl
  by_cases h0 : o.length ≤ p.length
  · have e0 : p.take ((o.length : Int)).toNat = p.take o.length := rfl
    by_cases h1 : p.take ((o.length : Int)).toNat = o
    · have e2 : pathF p o = (decide (p.drop o.length = []) || decide (o.getLast? = some 47) || decide ((p.drop o.length).head? = some 47)) := by unfold pathF; rw [show pre p o = true from decide_eq_true h1]; rfl
      rw [e2]
      by_cases h2 : o.length = p.length
      · skip
        refine fun2 tb_ok Tryz.func67 rfl Tryz.ntmps67 Tryz.results67 rfl fun N => ?_
        repeat' (first | refine zt ?_ | (refine isR ?_; first | refine zo ?_ | refine zA ?_ | refine zL ?_ | refine zc3 ?_ | refine zc5 ?_ | refine zc6 ?_ | refine zI ?_ | refine zS ?_ | (refine zs3 ?_ ?_ <;> intro hc) | (refine zs5 ?_ ?_ <;> intro hc) | (refine zs6 ?_ ?_ <;> intro hc)) | refine awp_split rfl (fun hb => ?_) (fun hb => ?_) | refine zr ?_ | exact x_le)
        have : p.drop o.length = [] := List.drop_eq_nil_of_le (by omega)
        rw [this]; rfl
      · have hlt : o.length < p.length := by omega
        have h3 : ¬ p.drop o.length = [] := by
          intro e
          have := congrArg List.length e
          simp at this; omega
        rw [decide_eq_false h3, Bool.false_or]
        have e5 : p[((o.length : Int)).toNat]? = some p[o.length] := by show p[o.length]? = _; simp [hlt]
        have e6 : (p.drop o.length).head? = some p[o.length] := by rw [List.head?_drop]; simp [hlt]
        rw [e6]
        generalize p[o.length] = b at e5 e6
        have hb := b.toNat_lt
        have e7 : decide (some b = some (47 : UInt8)) = decide ((b.toNat : Int) = 47) := by
          have := byte_eq (c := b) (d := 47)
          simp [this]
        rw [e7]
        by_cases h4 : o = []
        · have h4' : o.length = 0 := by rw [h4]; rfl
          refine fun2 tb_ok Tryz.func67 rfl Tryz.ntmps67 Tryz.results67 rfl fun N => ?_
          repeat' (first | refine zt ?_ | (refine isR ?_; first | refine zo ?_ | refine zA ?_ | refine zL ?_ | refine zc3 ?_ | refine zc5 ?_ | refine zc6 ?_ | refine zI ?_ | refine zS ?_ | (refine zs3 ?_ ?_ <;> intro hc) | (refine zs5 ?_ ?_ <;> intro hc) | (refine zs6 ?_ ?_ <;> intro hc)) | refine awp_split rfl (fun hb => ?_) (fun hb => ?_) | refine zr ?_ | exact x_le)
          all_goals (show V.bool _ = V.bool _; simp [*])
        · have hpos : 0 < o.length := List.length_pos_iff.2 h4
          have e8 : o[((o.length : Int) - 1).toNat]? = some o[o.length - 1] := by
            rw [show ((o.length : Int) - 1).toNat = o.length - 1 by omega]; simp
          have e9 : o.getLast? = some o[o.length - 1] := by rw [List.getLast?_eq_getElem?]; simp
          rw [e9]
          generalize o[o.length - 1] = q at e8 e9
          have hq := q.toNat_lt
          have e10 : decide (some q = some (47 : UInt8)) = decide ((q.toNat : Int) = 47) := by
            have := byte_eq (c := q) (d := 47)
            simp [this]
          rw [e10]
          refine fun2 tb_ok Tryz.func67 rfl Tryz.ntmps67 Tryz.results67 rfl fun N => ?_
          repeat' (first | refine zt ?_ | (refine isR ?_; first | refine zo ?_ | refine zA ?_ | refine zL ?_ | refine zc3 ?_ | refine zc5 ?_ | refine zc6 ?_ | refine zI ?_ | refine zS ?_ | (refine zs3 ?_ ?_ <;> intro hc) | (refine zs5 ?_ ?_ <;> intro hc) | (refine zs6 ?_ ?_ <;> intro hc)) | refine awp_split rfl (fun hb => ?_) (fun hb => ?_) | refine zr ?_ | exact x_le)
          all_goals (show V.bool _ = V.bool _; simp [*])
    · have e2 : pathF p o = false := by unfold pathF; rw [show pre p o = false from decide_eq_false h1]; rfl
      rw [e2]
      refine fun2 tb_ok Tryz.func67 rfl Tryz.ntmps67 Tryz.results67 rfl fun N => ?_
      repeat' (first | refine zt ?_ | (refine isR ?_; first | refine zo ?_ | refine zA ?_ | refine zL ?_ | refine zc3 ?_ | refine zc5 ?_ | refine zc6 ?_ | refine zI ?_ | refine zS ?_ | (refine zs3 ?_ ?_ <;> intro hc) | (refine zs5 ?_ ?_ <;> intro hc) | (refine zs6 ?_ ?_ <;> intro hc)) | refine awp_split rfl (fun hb => ?_) (fun hb => ?_) | refine zr ?_ | exact x_le)
      rfl
  · have e2 : pathF p o = false := by
      unfold pathF
      cases h : pre p o with
      | false => rfl
      | true => exact absurd (pre_len h) h0
    rw [e2]
    refine fun2 tb_ok Tryz.func67 rfl Tryz.ntmps67 Tryz.results67 rfl fun N => ?_
    repeat' (first | refine zt ?_ | (refine isR ?_; first | refine zo ?_ | refine zA ?_ | refine zL ?_ | refine zc3 ?_ | refine zc5 ?_ | refine zc6 ?_ | refine zI ?_ | refine zS ?_ | (refine zs3 ?_ ?_ <;> intro hc) | (refine zs5 ?_ ?_ <;> intro hc) | (refine zs6 ?_ ?_ <;> intro hc)) | refine awp_split rfl (fun hb => ?_) (fun hb => ?_) | refine zr ?_ | exact x_le)
    rfl
/-! ### Goes -/
def mayF (c : Cookie) (f : From) : Bool := !(c.secure && !f.secure) && (!(c.httpOnly && f.script) && !(f.abroad && !decide (c.site = 1)))
def atF (c : Cookie) (f : From) : Bool := if c.hostOnly then decide (f.host = c.domain) else matchF f.host c.domain
def goesF (c : Cookie) (f : From) (now : Int) : Bool := decide (now < c.expiry) && (atF c f && (pathF f.path c.path && mayF c f))
abbrev askV (f : From) (now : Int) : Abs.V := .agg [.str (str f.host), .str (str f.path), .bool f.secure, .bool f.script, .bool f.abroad, .int .i64 now]
set_option maxRecDepth 100000 in
set_option maxHeartbeats 4000000 in
theorem live_v {c : Cookie} {now : Int} : ACalls Tryz.prog 18 [c.v, .int .i64 now] (.bool (decide (now < c.expiry))) := by
  refine fun2 tb_ok Tryz.func18 rfl Tryz.ntmps18 Tryz.results18 rfl fun N => ?_
  repeat' (first | refine zt ?_ | (refine isR ?_; first | refine zo ?_ | refine zc3 ?_ | (refine zs3 ?_ ?_ <;> intro hc)) | refine awp_split rfl (fun hb => ?_) (fun hb => ?_) | refine zr ?_ | exact x_le)
  all_goals (show V.bool _ = V.bool _; first | rfl | simp_all)
set_option maxRecDepth 100000 in
set_option maxHeartbeats 4000000 in
theorem isLive_v {c : Cookie} {now : Int} : ACalls Tryz.prog 57 [c.v, .int .i64 now] (.bool (decide (now < c.expiry))) := by
  refine fun2 tb_ok Tryz.func57 rfl Tryz.ntmps57 Tryz.results57 rfl fun N => ?_
  repeat' (first | refine zt ?_ | (refine isR ?_; first | refine zo ?_ | refine zc1 ?_ | (refine zs1 ?_ ?_ <;> intro hc)) | refine awp_split rfl (fun hb => ?_) (fun hb => ?_) | refine zr ?_ | exact x_le)
  all_goals (show V.bool _ = V.bool _; first | rfl | simp_all)
set_option maxRecDepth 100000 in
set_option maxHeartbeats 4000000 in
theorem alive_v {c : Cookie} {f : From} {now : Int} : ACalls Tryz.prog 43 [askV f now, c.v] (.bool (decide (now < c.expiry))) := by
  have c1 := live_v (c := c) (now := now)
  refine fun2 tb_ok Tryz.func43 rfl Tryz.ntmps43 Tryz.results43 rfl fun N => ?_
  repeat' (first | refine zt ?_ | (refine isR ?_; first | refine zo ?_ | refine zk c1 ?_) | refine awp_split rfl (fun hb => ?_) (fun hb => ?_) | refine zr ?_ | exact x_le)
  rfl
set_option maxRecDepth 100000 in
set_option maxHeartbeats 4000000 in
theorem along_v {c : Cookie} {f : From} {now : Int} : ACalls Tryz.prog 45 [askV f now, c.v] (.bool (pathF f.path c.path)) := by
  have c1 := path_v (p := f.path) (o := c.path)
  refine fun2 tb_ok Tryz.func45 rfl Tryz.ntmps45 Tryz.results45 rfl fun N => ?_
  repeat' (first | refine zt ?_ | (refine isR ?_; first | refine zo ?_ | refine zk c1 ?_) | refine awp_split rfl (fun hb => ?_) (fun hb => ?_) | refine zr ?_ | exact x_le)
  rfl
set_option maxRecDepth 100000 in
set_option maxHeartbeats 4000000 in
theorem at_v {c : Cookie} {f : From} {now : Int} (hd : c.domain.length ≤ 140737488355327) (hf : f.host.length ≤ 4398046511104) : ACallsG Tryz.prog gStr 44 [askV f now, c.v] (.bool (atF c f)) := by
  have c1 := match_v (l := f.host) (m := c.domain) hf hd
  unfold atF
  obtain ⟨f1, f2, f3, f4, f5⟩ := f
  obtain ⟨d1, d2, d3, d4, d5, d6, d7, d8, d9, d10, d11, d12, d13⟩ := c
  dsimp only at *
  cases d5
  · skip
    refine funG2 tb_ok Tryz.func44 rfl Tryz.ntmps44 Tryz.results44 rfl fun N => ?_
    repeat' (first | refine zt ?_ | (refine isR ?_; first | refine zo ?_ | refine zk c1 ?_ | refine zc5 ?_ | (refine zs5 ?_ ?_ <;> intro hc)) | refine awp_split rfl (fun hb => ?_) (fun hb => ?_) | refine zr ?_ | exact x_le)
    rfl
  · skip
    refine funG2 tb_ok Tryz.func44 rfl Tryz.ntmps44 Tryz.results44 rfl fun N => ?_
    repeat' (first | refine zt ?_ | (refine isR ?_; first | refine zo ?_ | refine zk c1 ?_ | refine zc5 ?_ | (refine zs5 ?_ ?_ <;> intro hc)) | refine awp_split rfl (fun hb => ?_) (fun hb => ?_) | refine zr ?_ | exact x_le)
    all_goals (show V.bool _ = V.bool _; first | rfl | simp_all)
set_option maxRecDepth 100000 in
set_option maxHeartbeats 4000000 in
theorem may_v {c : Cookie} {f : From} {now : Int} : ACalls Tryz.prog 46 [askV f now, c.v] (.bool (mayF c f)) := by
  unfold mayF
  obtain ⟨f1, f2, f3, f4, f5⟩ := f
  obtain ⟨d1, d2, d3, d4, d5, d6, d7, d8, d9, d10, d11, d12, d13⟩ := c
  dsimp only at *
  cases d6
  · cases d7
    · cases f5
      all_goals
        refine fun2 tb_ok Tryz.func46 rfl Tryz.ntmps46 Tryz.results46 rfl fun N => ?_
        repeat' (first | refine zt ?_ | (refine isR ?_; first | refine zo ?_ | refine zc6 ?_ | (refine zs6 ?_ ?_ <;> intro hc)) | refine awp_split rfl (fun hb => ?_) (fun hb => ?_) | refine zr ?_ | exact x_le)
        all_goals (show V.bool _ = V.bool _; first | rfl | simp_all)
    · cases f4 <;> cases f5
      all_goals
        refine fun2 tb_ok Tryz.func46 rfl Tryz.ntmps46 Tryz.results46 rfl fun N => ?_
        repeat' (first | refine zt ?_ | (refine isR ?_; first | refine zo ?_ | refine zc6 ?_ | (refine zs6 ?_ ?_ <;> intro hc)) | refine awp_split rfl (fun hb => ?_) (fun hb => ?_) | refine zr ?_ | exact x_le)
        all_goals (show V.bool _ = V.bool _; first | rfl | simp_all)
  · cases f3
    · skip
      refine fun2 tb_ok Tryz.func46 rfl Tryz.ntmps46 Tryz.results46 rfl fun N => ?_
      repeat' (first | refine zt ?_ | (refine isR ?_; first | refine zo ?_ | refine zc6 ?_ | (refine zs6 ?_ ?_ <;> intro hc)) | refine awp_split rfl (fun hb => ?_) (fun hb => ?_) | refine zr ?_ | exact x_le)
      all_goals (show V.bool _ = V.bool _; first | rfl | simp_all)
    · cases d7
      · cases f5
        all_goals
          refine fun2 tb_ok Tryz.func46 rfl Tryz.ntmps46 Tryz.results46 rfl fun N => ?_
          repeat' (first | refine zt ?_ | (refine isR ?_; first | refine zo ?_ | refine zc6 ?_ | (refine zs6 ?_ ?_ <;> intro hc)) | refine awp_split rfl (fun hb => ?_) (fun hb => ?_) | refine zr ?_ | exact x_le)
          all_goals (show V.bool _ = V.bool _; first | rfl | simp_all)
      · cases f4 <;> cases f5
        all_goals
          refine fun2 tb_ok Tryz.func46 rfl Tryz.ntmps46 Tryz.results46 rfl fun N => ?_
          repeat' (first | refine zt ?_ | (refine isR ?_; first | refine zo ?_ | refine zc6 ?_ | (refine zs6 ?_ ?_ <;> intro hc)) | refine awp_split rfl (fun hb => ?_) (fun hb => ?_) | refine zr ?_ | exact x_le)
          all_goals (show V.bool _ = V.bool _; first | rfl | simp_all)
set_option maxRecDepth 100000 in
set_option maxHeartbeats 4000000 in
theorem goes_v {c : Cookie} {f : From} {now : Int} (hd : c.domain.length ≤ 140737488355327) (hf : f.host.length ≤ 4398046511104) : ACallsG Tryz.prog gStr 21 [c.v, f.v, .int .i64 now] (.bool (goesF c f now)) := by
  have c1 := alive_v (c := c) (f := f) (now := now)
  have c2 := at_v (c := c) (f := f) (now := now) hd hf
  have c3 := along_v (c := c) (f := f) (now := now)
  have c4 := may_v (c := c) (f := f) (now := now)
  have e : goesF c f now = (decide (now < c.expiry) && (atF c f && (pathF f.path c.path && mayF c f))) := rfl
  rw [e]
  generalize decide (now < c.expiry) = x at *
  generalize atF c f = y at *
  generalize pathF f.path c.path = z at *
  generalize mayF c f = u at *
  refine funG3 tb_ok Tryz.func21 rfl Tryz.ntmps21 Tryz.results21 rfl fun N => ?_
  repeat' (first | with_reducible refine rounds_on ?_ | with_reducible refine awp_rounds 6 ?_ | refine zt ?_ | (refine isR ?_; first | refine zo ?_ | refine x_callvS (c1 _) (fun hb => ?_) (fun hb => ?_) | refine x_callvS (c1) (fun hb => ?_) (fun hb => ?_) | refine x_callvS (c2 _) (fun hb => ?_) (fun hb => ?_) | refine x_callvS (c2) (fun hb => ?_) (fun hb => ?_) | refine x_callvS (c3 _) (fun hb => ?_) (fun hb => ?_) | refine x_callvS (c3) (fun hb => ?_) (fun hb => ?_) | refine x_callvS (c4 _) (fun hb => ?_) (fun hb => ?_) | refine x_callvS (c4) (fun hb => ?_) (fun hb => ?_) | refine zA ?_ | refine zc1 ?_ | refine zI ?_ | (refine zs1 ?_ ?_ <;> intro hc)) | refine awp_split rfl (fun hb => ?_) (fun hb => ?_) | refine zr ?_ | exact x_le)
  all_goals (show V.bool _ = V.bool _; first | rfl | simp_all)
set_option maxRecDepth 100000 in
set_option maxHeartbeats 4000000 in
theorem goesOf_v {c : Cookie} {f : From} {now : Int} (hd : c.domain.length ≤ 140737488355327) (hf : f.host.length ≤ 4398046511104) : ACalls Tryz.prog 41 [c.v, f.v, .int .i64 now] (.bool (goesF c f now)) := by
  have c1 := isLive_v (c := c) (now := now)
  have c2 := pathMatch_v (p := f.path) (o := c.path)
  have c3 := isMatch_v (l := f.host) (m := c.domain) hf hd
  have e : goesF c f now = (decide (now < c.expiry) && (atF c f && (pathF f.path c.path && mayF c f))) := rfl
  rw [e]
  unfold atF mayF
  obtain ⟨f1, f2, f3, f4, f5⟩ := f
  obtain ⟨d1, d2, d3, d4, d5, d6, d7, d8, d9, d10, d11, d12, d13⟩ := c
  dsimp only at *
  generalize decide (now < d10) = x at *
  generalize pathF f2 d4 = z at *
  generalize matchF f1 d3 = m at *
  cases x
  · skip
    refine fun3 tb_ok Tryz.func41 rfl Tryz.ntmps41 Tryz.results41 rfl fun N => ?_
    repeat' (first | refine zt ?_ | (refine isR ?_; first | refine zo ?_ | refine zk c1 ?_ | refine zc5 ?_ | refine zc6 ?_ | (refine zs5 ?_ ?_ <;> intro hc) | (refine zs6 ?_ ?_ <;> intro hc)) | refine awp_split rfl (fun hb => ?_) (fun hb => ?_) | refine zr ?_ | exact x_le)
    all_goals (show V.bool _ = V.bool _; first | rfl | simp_all)
  · cases z
    · skip
      refine fun3 tb_ok Tryz.func41 rfl Tryz.ntmps41 Tryz.results41 rfl fun N => ?_
      repeat' (first | refine zt ?_ | (refine isR ?_; first | refine zo ?_ | refine zk c1 ?_ | refine zk c2 ?_ | refine zc5 ?_ | refine zc6 ?_ | (refine zs5 ?_ ?_ <;> intro hc) | (refine zs6 ?_ ?_ <;> intro hc)) | refine awp_split rfl (fun hb => ?_) (fun hb => ?_) | refine zr ?_ | exact x_le)
      all_goals (show V.bool _ = V.bool _; first | rfl | simp_all)
    · cases d5
      · cases m
        · skip
          refine fun3 tb_ok Tryz.func41 rfl Tryz.ntmps41 Tryz.results41 rfl fun N => ?_
          repeat' (first | refine zt ?_ | (refine isR ?_; first | refine zo ?_ | refine zk c1 ?_ | refine zk c2 ?_ | refine zk c3 ?_ | refine zc5 ?_ | refine zc6 ?_ | (refine zs5 ?_ ?_ <;> intro hc) | (refine zs6 ?_ ?_ <;> intro hc)) | refine awp_split rfl (fun hb => ?_) (fun hb => ?_) | refine zr ?_ | exact x_le)
          all_goals (show V.bool _ = V.bool _; first | rfl | simp_all)
        · skip
          cases d6
          · skip
            cases d7
            · skip
              cases f5
              all_goals
                refine fun3 tb_ok Tryz.func41 rfl Tryz.ntmps41 Tryz.results41 rfl fun N => ?_
                repeat' (first | refine zt ?_ | (refine isR ?_; first | refine zo ?_ | refine zk c1 ?_ | refine zk c2 ?_ | refine zk c3 ?_ | refine zc5 ?_ | refine zc6 ?_ | (refine zs5 ?_ ?_ <;> intro hc) | (refine zs6 ?_ ?_ <;> intro hc)) | refine awp_split rfl (fun hb => ?_) (fun hb => ?_) | refine zr ?_ | exact x_le)
                all_goals (show V.bool _ = V.bool _; first | rfl | simp_all)
            · skip
              cases f4 <;> cases f5
              all_goals
                refine fun3 tb_ok Tryz.func41 rfl Tryz.ntmps41 Tryz.results41 rfl fun N => ?_
                repeat' (first | refine zt ?_ | (refine isR ?_; first | refine zo ?_ | refine zk c1 ?_ | refine zk c2 ?_ | refine zk c3 ?_ | refine zc5 ?_ | refine zc6 ?_ | (refine zs5 ?_ ?_ <;> intro hc) | (refine zs6 ?_ ?_ <;> intro hc)) | refine awp_split rfl (fun hb => ?_) (fun hb => ?_) | refine zr ?_ | exact x_le)
                all_goals (show V.bool _ = V.bool _; first | rfl | simp_all)
          · skip
            cases f3
            · skip
              refine fun3 tb_ok Tryz.func41 rfl Tryz.ntmps41 Tryz.results41 rfl fun N => ?_
              repeat' (first | refine zt ?_ | (refine isR ?_; first | refine zo ?_ | refine zk c1 ?_ | refine zk c2 ?_ | refine zk c3 ?_ | refine zc5 ?_ | refine zc6 ?_ | (refine zs5 ?_ ?_ <;> intro hc) | (refine zs6 ?_ ?_ <;> intro hc)) | refine awp_split rfl (fun hb => ?_) (fun hb => ?_) | refine zr ?_ | exact x_le)
              all_goals (show V.bool _ = V.bool _; first | rfl | simp_all)
            · skip
              cases d7
              · skip
                cases f5
                all_goals
                  refine fun3 tb_ok Tryz.func41 rfl Tryz.ntmps41 Tryz.results41 rfl fun N => ?_
                  repeat' (first | refine zt ?_ | (refine isR ?_; first | refine zo ?_ | refine zk c1 ?_ | refine zk c2 ?_ | refine zk c3 ?_ | refine zc5 ?_ | refine zc6 ?_ | (refine zs5 ?_ ?_ <;> intro hc) | (refine zs6 ?_ ?_ <;> intro hc)) | refine awp_split rfl (fun hb => ?_) (fun hb => ?_) | refine zr ?_ | exact x_le)
                  all_goals (show V.bool _ = V.bool _; first | rfl | simp_all)
              · skip
                cases f4 <;> cases f5
                all_goals
                  refine fun3 tb_ok Tryz.func41 rfl Tryz.ntmps41 Tryz.results41 rfl fun N => ?_
                  repeat' (first | refine zt ?_ | (refine isR ?_; first | refine zo ?_ | refine zk c1 ?_ | refine zk c2 ?_ | refine zk c3 ?_ | refine zc5 ?_ | refine zc6 ?_ | (refine zs5 ?_ ?_ <;> intro hc) | (refine zs6 ?_ ?_ <;> intro hc)) | refine awp_split rfl (fun hb => ?_) (fun hb => ?_) | refine zr ?_ | exact x_le)
                  all_goals (show V.bool _ = V.bool _; first | rfl | simp_all)
      · by_cases he : f1 = d3
        · skip
          cases d6
          · skip
            cases d7
            · skip
              cases f5
              all_goals
                refine fun3 tb_ok Tryz.func41 rfl Tryz.ntmps41 Tryz.results41 rfl fun N => ?_
                repeat' (first | refine zt ?_ | (refine isR ?_; first | refine zo ?_ | refine zk c1 ?_ | refine zk c2 ?_ | refine zc5 ?_ | refine zc6 ?_ | (refine zs5 ?_ ?_ <;> intro hc) | (refine zs6 ?_ ?_ <;> intro hc)) | refine awp_split rfl (fun hb => ?_) (fun hb => ?_) | refine zr ?_ | exact x_le)
                all_goals (show V.bool _ = V.bool _; first | rfl | simp_all)
            · skip
              cases f4 <;> cases f5
              all_goals
                refine fun3 tb_ok Tryz.func41 rfl Tryz.ntmps41 Tryz.results41 rfl fun N => ?_
                repeat' (first | refine zt ?_ | (refine isR ?_; first | refine zo ?_ | refine zk c1 ?_ | refine zk c2 ?_ | refine zc5 ?_ | refine zc6 ?_ | (refine zs5 ?_ ?_ <;> intro hc) | (refine zs6 ?_ ?_ <;> intro hc)) | refine awp_split rfl (fun hb => ?_) (fun hb => ?_) | refine zr ?_ | exact x_le)
                all_goals (show V.bool _ = V.bool _; first | rfl | simp_all)
          · skip
            cases f3
            · skip
              refine fun3 tb_ok Tryz.func41 rfl Tryz.ntmps41 Tryz.results41 rfl fun N => ?_
              repeat' (first | refine zt ?_ | (refine isR ?_; first | refine zo ?_ | refine zk c1 ?_ | refine zk c2 ?_ | refine zc5 ?_ | refine zc6 ?_ | (refine zs5 ?_ ?_ <;> intro hc) | (refine zs6 ?_ ?_ <;> intro hc)) | refine awp_split rfl (fun hb => ?_) (fun hb => ?_) | refine zr ?_ | exact x_le)
              all_goals (show V.bool _ = V.bool _; first | rfl | simp_all)
            · skip
              cases d7
              · skip
                cases f5
                all_goals
                  refine fun3 tb_ok Tryz.func41 rfl Tryz.ntmps41 Tryz.results41 rfl fun N => ?_
                  repeat' (first | refine zt ?_ | (refine isR ?_; first | refine zo ?_ | refine zk c1 ?_ | refine zk c2 ?_ | refine zc5 ?_ | refine zc6 ?_ | (refine zs5 ?_ ?_ <;> intro hc) | (refine zs6 ?_ ?_ <;> intro hc)) | refine awp_split rfl (fun hb => ?_) (fun hb => ?_) | refine zr ?_ | exact x_le)
                  all_goals (show V.bool _ = V.bool _; first | rfl | simp_all)
              · skip
                cases f4 <;> cases f5
                all_goals
                  refine fun3 tb_ok Tryz.func41 rfl Tryz.ntmps41 Tryz.results41 rfl fun N => ?_
                  repeat' (first | refine zt ?_ | (refine isR ?_; first | refine zo ?_ | refine zk c1 ?_ | refine zk c2 ?_ | refine zc5 ?_ | refine zc6 ?_ | (refine zs5 ?_ ?_ <;> intro hc) | (refine zs6 ?_ ?_ <;> intro hc)) | refine awp_split rfl (fun hb => ?_) (fun hb => ?_) | refine zr ?_ | exact x_le)
                  all_goals (show V.bool _ = V.bool _; first | rfl | simp_all)
        · have he' : ¬ d3 = f1 := fun e => he e.symm
          refine fun3 tb_ok Tryz.func41 rfl Tryz.ntmps41 Tryz.results41 rfl fun N => ?_
          repeat' (first | refine zt ?_ | (refine isR ?_; first | refine zo ?_ | refine zk c1 ?_ | refine zk c2 ?_ | refine zc5 ?_ | refine zc6 ?_ | (refine zs5 ?_ ?_ <;> intro hc) | (refine zs6 ?_ ?_ <;> intro hc)) | refine awp_split rfl (fun hb => ?_) (fun hb => ?_) | refine zr ?_ | exact x_le)
          all_goals (show V.bool _ = V.bool _; first | rfl | simp_all)
end Go.Proofs.YtoehdmbogdpncaaGreatDoor.GoesW
end

section
namespace Go.Proofs.YtoehdmbogdpncaaGreatDoor.LineP
open Go.RowKit Mem Abs SortP SortW TreeW WordS PathT

theorem ck_iff (x y : Cookie) : ckLt x y = true ↔ y.path.length < x.path.length ∨ y.path.length = x.path.length ∧ (x.created < y.created ∨ x.created = y.created ∧ x.no < y.no) := by
  unfold ckLt cz orI cmpI
  rw [decide_eq_true_iff]
  repeat' split
  all_goals omega
theorem ck_no (x y : Cookie) : ckLt x y = false ↔ ¬ (y.path.length < x.path.length ∨ y.path.length = x.path.length ∧ (x.created < y.created ∨ x.created = y.created ∧ x.no < y.no)) := by
  rw [← ck_iff, Bool.not_eq_true]
theorem ck_weak : Weak ckLt where
  asymm x y h := by rw [ck_iff] at h; rw [ck_no]; omega
  neg x y z h := by rw [ck_iff] at h; rw [ck_iff, ck_iff]; omega
def ahB (p q : Cookie × Nat) : Bool := ckLt p.1 q.1 || (!ckLt q.1 p.1 && decide (p.2 < q.2))
theorem ahB_iff (p q : Cookie × Nat) : ahB p q = true ↔ Ah ckLt p q := by unfold ahB Ah; simp
def rank (L : List Cookie) (x : Cookie) (i : Nat) : Nat := L.zipIdx.countP fun p => ahB p (x, i)
theorem rank_at {L : List Cookie} {M : List (Cookie × Nat)} (hp : M.Perm L.zipIdx) (hs : M.Pairwise (Ah ckLt)) {p : Nat} {x : Cookie} {j : Nat} (h : M[p]? = some (x, j)) : rank L x j = p := by
  obtain ⟨hlt, he⟩ := List.getElem?_eq_some_iff.1 h
  have hM : M = M.take p ++ (x, j) :: M.drop (p + 1) := by rw [← he, List.getElem_cons_drop, List.take_append_drop]
  have hs2 := hs
  rw [hM, List.pairwise_append, List.pairwise_cons] at hs2
  unfold rank
  rw [← hp.countP_eq, hM, List.countP_append, List.countP_cons]
  have h1 : (M.take p).countP (fun q => ahB q (x, j)) = (M.take p).length := List.countP_eq_length.2 fun q hq => (ahB_iff _ _).2 (hs2.2.2 q hq _ (by simp))
  have h2 : ahB (x, j) (x, j) = false := by
    rw [← Bool.not_eq_true, ahB_iff]
    exact fun h => Ah.not ck_weak _ _ h h
  have h3 : (M.drop (p + 1)).countP (fun q => ahB q (x, j)) = 0 := List.countP_eq_zero.2 fun q hq h => Ah.not ck_weak _ _ (hs2.2.1.1 q hq) ((ahB_iff _ _).1 h)
  rw [h1, h2, h3, List.length_take]
  simp
  omega
theorem mem_zip {L : List Cookie} {x : Cookie} {j : Nat} : (x, j) ∈ L.zipIdx ↔ L[j]? = some x := by
  rw [List.mk_mem_zipIdx_iff_getElem?]
theorem rank_of {L : List Cookie} {M : List (Cookie × Nat)} (hp : M.Perm L.zipIdx) (hs : M.Pairwise (Ah ckLt)) {x : Cookie} {j : Nat} (h : L[j]? = some x) : M[rank L x j]? = some (x, j) := by
  obtain ⟨p, hp2⟩ := List.mem_iff_getElem?.1 (hp.mem_iff.2 (mem_zip.2 h))
  rw [rank_at hp hs hp2]; exact hp2
theorem rank_lt {L : List Cookie} {x : Cookie} {j : Nat} (h : L[j]? = some x) : rank L x j < L.length := by
  obtain ⟨M, _, h2, h3⟩ := sort_spec ck_weak L
  have := (List.getElem?_eq_some_iff.1 (rank_of h2 h3 h)).1
  rw [h2.length_eq] at this
  simpa using this
theorem rank_inj {L : List Cookie} {x y : Cookie} {i j : Nat} (h : L[i]? = some x) (k : L[j]? = some y) (e : rank L x i = rank L y j) : i = j := by
  obtain ⟨M, _, h2, h3⟩ := sort_spec ck_weak L
  have h4 := rank_of h2 h3 h
  rw [e, rank_of h2 h3 k] at h4
  cases h4; rfl
/-- Each at its rank: that is the sorted list. -/
theorem ranked {L O : List Cookie} (hl : O.length = L.length) (h : ∀ j x, L[j]? = some x → O[rank L x j]? = some x) : O = sortF ckLt L := by
  obtain ⟨M, h1, h2, h3⟩ := sort_spec ck_weak L
  rw [← h1]
  refine List.ext_getElem? fun p => ?_
  by_cases hp : p < L.length
  · have hM : p < M.length := by rw [h2.length_eq]; simpa using hp
    have e : M[p]? = some M[p] := List.getElem?_eq_getElem hM
    have hm : M[p] ∈ L.zipIdx := h2.mem_iff.1 (List.getElem_mem hM)
    rw [List.getElem?_map, e]
    generalize M[p] = q at *
    obtain ⟨x, j⟩ := q
    have := h j x (mem_zip.1 hm)
    rw [rank_at h2 h3 e] at this
    exact this
  · rw [List.getElem?_eq_none (by omega), List.getElem?_eq_none (by rw [List.length_map, h2.length_eq]; simp; omega)]
theorem rank_step {L : List Cookie} {x y : Cookie} {i k : Nat} (h : L[k]? = some y) : (L.zipIdx.take (k + 1)).countP (fun p => ahB p (x, i)) = (L.zipIdx.take k).countP (fun p => ahB p (x, i)) + if ahB (y, k) (x, i) = true then 1 else 0 := by
  have hk := (List.getElem?_eq_some_iff.1 h).1
  have hz : k < L.zipIdx.length := by simpa using hk
  have e : L.zipIdx[k] = (y, k) := by
    have : L[k] = y := (List.getElem?_eq_some_iff.1 h).2
    simp [this]
  rw [List.take_succ_eq_append_getElem hz, List.countP_append, e, List.countP_cons, List.countP_nil, Nat.zero_add]
theorem rank_all {L : List Cookie} {x : Cookie} {i : Nat} : (L.zipIdx.take L.length).countP (fun p => ahB p (x, i)) = rank L x i := by
  unfold rank
  rw [List.take_of_length_le (by simp)]
theorem rank_self {x : Cookie} {i : Nat} : ahB (x, i) (x, i) = false := by
  rw [← Bool.not_eq_true, ahB_iff]
  exact fun h => Ah.not ck_weak _ _ h h

/-! ### What is sorted -/
/-! ### Lines -/
def ckT (c : Cookie) : List UInt8 := (c.name ++ [61]) ++ c.value
def lineT : List Cookie → List UInt8
  | [] => []
  | [c] => ckT c
  | c :: r => ckT c ++ ([59, 32] ++ lineT r)
def SmallC (L : List Cookie) : Prop := L.length ≤ 1048576 ∧ ∀ c ∈ L, c.name.length ≤ 1048576 ∧ c.value.length ≤ 1048576
def FairC (c : Cookie) : Prop := c.name ≠ [] ∧ c.name.contains 59 = false ∧ c.name.contains 61 = false ∧ c.value.contains 59 = false
end Go.Proofs.YtoehdmbogdpncaaGreatDoor.LineP
end

section
namespace Go.Proofs.YtoehdmbogdpncaaGreatDoor.LineB
open Go.RowKit Mem Abs TreeW SortP SortW SortM SortN LineA LineP

def ckP (c : Cookie) : (List UInt8 × List UInt8 × List UInt8 × List UInt8) × (Bool × Bool × Bool × Bool) × (Int × Int × Int × Int × Int) := ((c.name, c.value, c.domain, c.path), (c.hostOnly, c.secure, c.httpOnly, c.lasting), (c.site, c.expiry, c.created, c.used, c.no))
theorem ckP_inj {a b : Cookie} (h : ckP a = ckP b) : a = b := by
  obtain ⟨a1, a2, a3, a4, a5, a6, a7, a8, a9, a10, a11, a12, a13⟩ := a
  obtain ⟨b1, b2, b3, b4, b5, b6, b7, b8, b9, b10, b11, b12, b13⟩ := b
  simp only [ckP, Prod.mk.injEq] at h
  obtain ⟨⟨rfl, rfl, rfl, rfl⟩, ⟨rfl, rfl, rfl, rfl⟩, ⟨rfl, rfl, rfl, rfl, rfl⟩⟩ := h
  rfl
instance : DecidableEq Cookie := fun a b => if h : ((a.name = b.name ∧ a.value = b.value ∧ a.domain = b.domain ∧ a.path = b.path) ∧ (a.hostOnly = b.hostOnly ∧ a.secure = b.secure ∧ a.httpOnly = b.httpOnly ∧ a.lasting = b.lasting)) ∧ (a.site = b.site ∧ a.expiry = b.expiry ∧ a.created = b.created ∧ a.used = b.used ∧ a.no = b.no) then isTrue (ckP_inj (by obtain ⟨⟨⟨h1, h2, h3, h4⟩, h5, h6, h7, h8⟩, h9, h10, h11, h12, h13⟩ := h; unfold ckP; rw [h1, h2, h3, h4, h5, h6, h7, h8, h9, h10, h11, h12, h13])) else isFalse (fun e => h (by subst e; simp))
def ekC : Ty := (nth tb 26).get rfl
theorem eqS_bool (a b : Bool) : eqS (.bool a) (.bool b) = (a == b) := rfl
theorem eqS_int (a b : Int) : eqS (.int .i64 a) (.int .i64 b) = (a == b) := rfl
theorem eq_cookie (a b : Cookie) : eqK ekC a.v b.v = decide (a = b) := by
  have h : eqK ekC a.v b.v = (eqS (strT a.name) (strT b.name) && (eqS (strT a.value) (strT b.value) && (eqS (strT a.domain) (strT b.domain) && (eqS (strT a.path) (strT b.path) && (eqS (.bool a.hostOnly) (.bool b.hostOnly) && (eqS (.bool a.secure) (.bool b.secure) && (eqS (.bool a.httpOnly) (.bool b.httpOnly) && (eqS (.bool a.lasting) (.bool b.lasting) && (eqS (.int .i64 a.site) (.int .i64 b.site) && (eqS (.int .i64 a.expiry) (.int .i64 b.expiry) && (eqS (.int .i64 a.created) (.int .i64 b.created) && (eqS (.int .i64 a.used) (.int .i64 b.used) && (eqS (.int .i64 a.no) (.int .i64 b.no) && true))))))))))))) := rfl
  rw [h]
  simp only [eqS_str, eqS_bool, eqS_int, Bool.and_true]
  rw [Bool.eq_iff_iff, decide_eq_true_iff]
  simp only [Bool.and_eq_true, beq_iff_eq, decide_eq_true_eq]
  refine ⟨fun h => ckP_inj ?_, fun h => by subst h; simp⟩
  obtain ⟨h1, h2, h3, h4, h5, h6, h7, h8, h9, h10, h11, h12, h13⟩ := h
  unfold ckP
  rw [h1, h2, h3, h4, h5, h6, h7, h8, h9, h10, h11, h12, h13]
theorem ck_lim {L : List Cookie} {r : List Abs.V} (h : V.LimL (.fro (L.map Cookie.v) :: r)) : L.length ≤ 140737488355328 := by have := h.1.1; simpa using this
theorem ah_iff {a b : Cookie} {i k : Nat} : ahB (a, i) (b, k) = true ↔ b.path.length < a.path.length ∨ b.path.length = a.path.length ∧ (a.created < b.created ∨ a.created = b.created ∧ (a.no < b.no ∨ a.no = b.no ∧ i < k)) := by
  rw [ahB_iff]
  unfold Ah
  dsimp only
  rw [ck_iff, ck_no]
  omega
set_option maxRecDepth 100000 in
set_option maxHeartbeats 4000000 in
theorem ahead_v {a b : Cookie} {i k : Nat} : ACalls Tryz.prog 69 [a.v, b.v, .int .i64 (i : Int), .int .i64 (k : Int)] (.bool (ahB (a, i) (b, k))) := by
  have hi := ah_iff (a := a) (b := b) (i := i) (k := k)
  generalize ahB (a, i) (b, k) = r at *
  refine fun4 tb_ok Tryz.func69 rfl Tryz.ntmps69 Tryz.results69 rfl fun N => ?_
  repeat' (first | refine zt ?_ | (refine isR ?_; first | refine zo ?_ | refine zL ?_ | refine zc1 ?_ | refine zc3 ?_ | refine zc6 ?_ | (refine zs1 ?_ ?_ <;> intro hc) | (refine zs3 ?_ ?_ <;> intro hc) | (refine zs6 ?_ ?_ <;> intro hc)) | refine awp_split rfl (fun hb => ?_) (fun hb => ?_) | refine zr ?_ | exact x_le)
  all_goals first
    | (have hr : r = true := hi.2 (by omega); rw [hr]; rfl)
    | (have hr : r = false := by rw [← Bool.not_eq_true, hi]; omega
       rw [hr]; rfl)
set_option maxRecDepth 100000 in
set_option maxHeartbeats 4000000 in
theorem sortOf_v {L : List Cookie} (hb : L.length * 112 ≤ 140737488355328) : ACalls Tryz.prog 42 [.fro (L.map Cookie.v)] (.fro ((sortF ckLt L).map Cookie.v)) := by
  have hl : L.length ≤ 140737488355328 := by omega
  have hx : ((L.map Cookie.v).length : Int) = (L.length : Int) := by simp
  refine fun1 tb_ok Tryz.func42 rfl Tryz.ntmps42 Tryz.results42 rfl fun N => ?_
  repeat' (first | refine zt ?_ | (refine isR ?_; first | refine x_far [7] tb_ok rfl ?_ | refine zn ?_ | refine x_appK Cookie.v (L := []) (K' := L) tb_ok ?_ | refine x_bsO 7 tb_ok ?_ | refine x_bs tb_ok ?_ | refine zA ?_ | refine zL ?_ | refine zc1 ?_ | refine zc6 ?_ | refine zI ?_ | (refine zs1 ?_ ?_ <;> intro hc) | (refine zs6 ?_ ?_ <;> intro hc)) | refine awp_split rfl (fun hb => ?_) (fun hb => ?_) | refine zr ?_ | exact x_le)
  refine awp_while (α := Nat × List Cookie) (fun x => ⟨[(0, .fro (L.map Cookie.v)), (3, .own 1 0 L.length), (4, .int .i64 (x.1 : Int))], [(1, some (rowC x.2))], 2, 48⟩) (fun x => x.1 ≤ L.length ∧ x.2.length = L.length ∧ ∀ j y, j < x.1 → L[j]? = some y → x.2[rank L y j]? = some y) (fun x => L.length - x.1) (0, L) (by exact x_le) ⟨Nat.zero_le _, rfl, fun j y h => absurd h (Nat.not_lt_zero _)⟩ ?_
  rintro ⟨i, O⟩ ⟨g1, g2, g3⟩
  dsimp only at g1 g2 g3 ⊢
  by_cases hi : i < L.length
  · have e1 : (L.map Cookie.v)[i]? = some (L[i]).v := by simp [hi]
    have e2 : L[i]? = some L[i] := by simp [hi]
    generalize L[i] = x at e1 e2
    repeat' (first | refine zt ?_ | (refine isR ?_; first | refine zo ?_ | refine x_bs tb_ok ?_ | refine zA ?_ | refine zL ?_ | refine zc1 ?_ | refine zc6 ?_ | refine zI ?_ | (refine zs1 ?_ ?_ <;> intro hc) | (refine zs6 ?_ ?_ <;> intro hc)) | refine awp_split rfl (fun hb => ?_) (fun hb => ?_) | refine zr ?_ | exact x_le)
    refine awp_for (fun k => ⟨[(0, .fro (L.map Cookie.v)), (3, .own 1 0 L.length), (4, .int .i64 (i : Int)), (5, .int .i64 (((L.zipIdx.take k).countP (fun p => ahB p (x, i)) : Nat) : Int)), (6, .int .i64 (k : Int))], [(1, some (rowC O))], 2, 48⟩) (fun k => k ≤ L.length) L.length 0 (by exact x_le) (Nat.zero_le _) ?_
    intro k hk
    by_cases hk2 : k < L.length
    · have f1 : (L.map Cookie.v)[k]? = some (L[k]).v := by simp [hk2]
      have f2 : L[k]? = some L[k] := by simp [hk2]
      generalize L[k] = y at f1 f2
      have f3 := rank_step (x := x) (i := i) f2
      have f4 : (L.zipIdx.take k).countP (fun p => ahB p (x, i)) ≤ k := Nat.le_trans List.countP_le_length (by simp; omega)
      simp only [f3]
      generalize (L.zipIdx.take k).countP (fun p => ahB p (x, i)) = c at *
      by_cases hki : k = i
      · subst hki
        have : y = x := by rw [f2] at e2; cases e2; rfl
        subst this
        rw [rank_self, if_neg (by simp)]
        repeat' (first | refine zt ?_ | (refine isR ?_; first | refine zo ?_ | refine x_bs tb_ok ?_ | refine zA ?_ | refine zL ?_ | refine zc1 ?_ | refine zc6 ?_ | refine zI ?_ | (refine zs1 ?_ ?_ <;> intro hc) | (refine zs6 ?_ ?_ <;> intro hc)) | refine awp_split rfl (fun hb => ?_) (fun hb => ?_) | refine zr ?_ | exact x_le)
        refine ⟨by omega, hk2, ?_⟩
        exact (by exact x_le)
      · have c1 := ahead_v (a := y) (b := x) (i := k) (k := i)
        cases hah : ahB (y, k) (x, i) with
        | true =>
          rw [hah] at c1
          rw [if_pos rfl]
          repeat' (first | refine zt ?_ | (refine isR ?_; first | refine zo ?_ | refine zk c1 ?_ | refine x_bs tb_ok ?_ | refine zA ?_ | refine zL ?_ | refine zc1 ?_ | refine zc6 ?_ | refine zI ?_ | (refine zs1 ?_ ?_ <;> intro hc) | (refine zs6 ?_ ?_ <;> intro hc)) | refine awp_split rfl (fun hb => ?_) (fun hb => ?_) | refine zr ?_ | exact x_le)
          refine ⟨by omega, hk2, ?_⟩
          exact (by exact x_le)
        | false =>
          rw [hah] at c1
          rw [if_neg (by simp)]
          repeat' (first | refine zt ?_ | (refine isR ?_; first | refine zo ?_ | refine zk c1 ?_ | refine x_bs tb_ok ?_ | refine zA ?_ | refine zL ?_ | refine zc1 ?_ | refine zc6 ?_ | refine zI ?_ | (refine zs1 ?_ ?_ <;> intro hc) | (refine zs6 ?_ ?_ <;> intro hc)) | refine awp_split rfl (fun hb => ?_) (fun hb => ?_) | refine zr ?_ | exact x_le)
          refine ⟨by omega, hk2, ?_⟩
          exact (by exact x_le)
    · obtain rfl : k = L.length := by omega
      rw [rank_all]
      have hr := rank_lt e2
      obtain ⟨z, hO⟩ : ∃ z, O[rank L x i]? = some z := ⟨_, List.getElem?_eq_getElem (by omega)⟩
      have hin := fun j y (h : L[j]? = some y) (e : rank L x i = rank L y j) => rank_inj e2 h e
      generalize hrk : rank L x i = q at *
      repeat' (first | refine zt ?_ | (refine isR ?_; first | refine zo ?_ | refine x_stI Cookie.v (a1 := x) q tb_ok ?_ | refine x_bs tb_ok ?_ | refine zA ?_ | refine zL ?_ | refine zc1 ?_ | refine zc6 ?_ | refine zI ?_ | (refine zs1 ?_ ?_ <;> intro hc) | (refine zs6 ?_ ?_ <;> intro hc)) | refine awp_split rfl (fun hb => ?_) (fun hb => ?_) | refine zr ?_ | exact x_le)
      refine ⟨(i + 1, O.set q x), ⟨by dsimp only; omega, by simp [g2], fun j y hj hy => ?_⟩, by dsimp only; omega, ?_⟩
      · show (O.set q x)[rank L y j]? = some y
        by_cases hji : j = i
        · subst hji
          rw [hy] at e2; cases e2
          rw [hrk, List.getElem?_set_self (by omega)]
        · rw [List.getElem?_set_ne (fun e => hji (hin j y hy e).symm)]
          exact g3 j y (by have : j < i + 1 := hj; omega) hy
      · exact (by exact x_le)
  · obtain rfl : i = L.length := by omega
    have hs := ranked g2 fun j y hy => g3 j y (List.getElem?_eq_some_iff.1 hy).1 hy
    rw [← hs]
    generalize L.length = n at *
    subst g2
    repeat' (first | refine zt ?_ | (refine isR ?_; first | refine zo ?_ | refine x_bs tb_ok ?_ | refine zA ?_ | refine zL ?_ | refine zc1 ?_ | refine zc6 ?_ | refine zI ?_ | (refine zs1 ?_ ?_ <;> intro hc) | (refine zs6 ?_ ?_ <;> intro hc)) | refine awp_split rfl (fun hb => ?_) (fun hb => ?_) | refine zr ?_ | exact x_le)
    show V.fro (List.take O.length (List.drop 0 (O.map Cookie.v))) = _
    rw [List.drop_zero, List.take_of_length_le (by simp)]
set_option maxRecDepth 100000 in
set_option maxHeartbeats 4000000 in
theorem sameCookies_v {L K : List Cookie} : ACalls Tryz.prog 17 [.fro (L.map Cookie.v), .fro (K.map Cookie.v)] (.bool (decide (L = K))) := ACalls.lim fun hlim => by
  have hl := ck_lim hlim
  have hx : ((L.map Cookie.v).length : Int) = (L.length : Int) := by simp
  have hy : ((K.map Cookie.v).length : Int) = (K.length : Int) := by simp
  by_cases h3 : L.length = K.length
  · skip
    refine fun2 tb_ok Tryz.func17 rfl Tryz.ntmps17 Tryz.results17 rfl fun N => ?_
    repeat' (first | refine zt ?_ | (refine isR ?_; first | refine zo ?_ | refine zA ?_ | refine zL ?_ | refine zc1 ?_ | refine zc6 ?_ | refine zI ?_ | (refine zs1 ?_ ?_ <;> intro hc) | (refine zs6 ?_ ?_ <;> intro hc)) | refine awp_split rfl (fun hb => ?_) (fun hb => ?_) | refine zr ?_ | exact x_le)
    refine awp_for (fun k => ⟨[(0, .fro (L.map Cookie.v)), (1, .fro (K.map Cookie.v)), (5, .int .i64 (k : Int))], [], 0, 26⟩) (fun k => k ≤ L.length ∧ ∀ j, j < k → L[j]? = K[j]?) L.length 0 (by exact x_le) ⟨Nat.zero_le _, fun j h => absurd h (Nat.not_lt_zero _)⟩ ?_
    intro k ⟨hk, hq⟩
    by_cases hk2 : k < L.length
    · have e1 : (L.map Cookie.v)[k]? = some (L[k]).v := by simp [hk2]
      have e2 : L[k]? = some L[k] := by simp [hk2]
      have hk3 : k < K.length := by omega
      have e3 : (K.map Cookie.v)[k]? = some (K[k]).v := by simp [hk3]
      have e4 : K[k]? = some K[k] := by simp [hk3]
      generalize L[k] = p at e1 e2
      generalize K[k] = q at e3 e4
      have he : (!eqK ekC p.v q.v) = !decide (p = q) := by rw [eq_cookie]
      by_cases hpq : p = q
      · rw [decide_eq_true hpq] at he
        repeat' (first | refine zt ?_ | (refine isR ?_; first | refine zo ?_ | refine zA ?_ | refine zL ?_ | refine zc1 ?_ | refine zc6 ?_ | refine zI ?_ | (refine zs1 ?_ ?_ <;> intro hc) | (refine zs6 ?_ ?_ <;> intro hc)) | refine awp_split rfl (fun hb => ?_) (fun hb => ?_) | refine zr ?_ | exact x_le)
        refine ⟨⟨by omega, fun j hj => ?_⟩, by omega, (by exact x_le)⟩
        rcases Nat.lt_succ_iff_lt_or_eq.1 hj with h | rfl
        · exact hq j h
        · rw [e2, e4, hpq]
      · rw [decide_eq_false hpq] at he
        repeat' (first | refine zt ?_ | (refine isR ?_; first | refine zo ?_ | refine zA ?_ | refine zL ?_ | refine zc1 ?_ | refine zc6 ?_ | refine zI ?_ | (refine zs1 ?_ ?_ <;> intro hc) | (refine zs6 ?_ ?_ <;> intro hc)) | refine awp_split rfl (fun hb => ?_) (fun hb => ?_) | refine zr ?_ | exact x_le)
        rw [decide_eq_false]
        · rfl
        intro e
        subst e
        rw [e2] at e4; cases e4; exact hpq rfl
    · have : L = K := List.ext_getElem? fun j => by
        by_cases hj : j < L.length
        · exact hq j (by omega)
        · rw [List.getElem?_eq_none (by omega), List.getElem?_eq_none (by omega)]
      repeat' (first | refine zt ?_ | (refine isR ?_; first | refine zo ?_ | refine zA ?_ | refine zL ?_ | refine zc1 ?_ | refine zc6 ?_ | refine zI ?_ | (refine zs1 ?_ ?_ <;> intro hc) | (refine zs6 ?_ ?_ <;> intro hc)) | refine awp_split rfl (fun hb => ?_) (fun hb => ?_) | refine zr ?_ | exact x_le)
      rw [decide_eq_true this]; rfl
  · rw [decide_eq_false (by intro e; subst e; exact h3 rfl)]
    refine fun2 tb_ok Tryz.func17 rfl Tryz.ntmps17 Tryz.results17 rfl fun N => ?_
    repeat' (first | refine zt ?_ | (refine isR ?_; first | refine zo ?_ | refine zA ?_ | refine zL ?_ | refine zc1 ?_ | refine zc6 ?_ | refine zI ?_ | (refine zs1 ?_ ?_ <;> intro hc) | (refine zs6 ?_ ?_ <;> intro hc)) | refine awp_split rfl (fun hb => ?_) (fun hb => ?_) | refine zr ?_ | exact x_le)
    rfl
def crumbC (n p : List UInt8) (cr no : Int) : Cookie := ⟨n, [118], [], p, false, false, false, false, 0, 0, cr, 0, no⟩
end Go.Proofs.YtoehdmbogdpncaaGreatDoor.LineB
end

section
namespace Go.Proofs.YtoehdmbogdpncaaGreatDoor.JarU
open Go.RowKit Mem Abs Scan JarP JarQ JarA JarB JarC JarE JarL JarJ JarK JarS JarT JarH Rdy Globs GoesW

abbrev cI : Cookie := ⟨([105, 100] : List UInt8), ([55] : List UInt8), ([115, 104, 111, 112, 46, 99, 111, 109] : List UInt8), ([47, 99, 97, 114, 116] : List UInt8), false, true, false, true, 0, 1060, 1000, 1000, 0⟩
abbrev c8 : Cookie := ⟨([105, 100] : List UInt8), ([56] : List UInt8), ([115, 104, 111, 112, 46, 99, 111, 109] : List UInt8), ([47, 99, 97, 114, 116] : List UInt8), false, true, false, true, 0, 1060, 1005, 1005, 0⟩
abbrev c9 : Cookie := ⟨([105, 100] : List UInt8), ([56] : List UInt8), ([115, 104, 111, 112, 46, 99, 111, 109] : List UInt8), ([47, 99, 97, 114, 116] : List UInt8), false, true, false, true, 0, 1060, 1000, 1005, 0⟩
abbrev cU : Cookie := ⟨([105, 100] : List UInt8), ([56] : List UInt8), ([115, 104, 111, 112, 46, 99, 111, 109] : List UInt8), ([47, 99, 97, 114, 116] : List UInt8), false, true, false, true, 0, 1060, 1000, 1010, 0⟩
abbrev fS : From := ⟨([119, 119, 119, 46, 115, 104, 111, 112, 46, 99, 111, 109] : List UInt8), ([47, 99, 97, 114, 116, 47, 97, 100, 100] : List UInt8), true, false, false⟩
set_option maxRecDepth 100000 in
set_option maxHeartbeats 4000000 in
theorem ident_v : ACalls Tryz.prog 35 [] cI.v := by
  refine fun0 tb_ok Tryz.func35 rfl Tryz.ntmps35 Tryz.results35 fun N => ?_
  repeat' (first | refine zt ?_ | (refine isR ?_; first | refine zo ?_) | refine awp_split rfl (fun hb => ?_) (fun hb => ?_) | refine zr ?_ | exact x_le)
  rfl
set_option maxRecDepth 100000 in
set_option maxHeartbeats 4000000 in
theorem shop_v : ACalls Tryz.prog 36 [] fS.v := by
  refine fun0 tb_ok Tryz.func36 rfl Tryz.ntmps36 Tryz.results36 fun N => ?_
  repeat' (first | refine zt ?_ | (refine isR ?_; first | refine zo ?_) | refine awp_split rfl (fun hb => ?_) (fun hb => ?_) | refine zr ?_ | exact x_le)
  rfl
theorem put_at {L M : List Cookie} {nx nx2 : Int} {c : Cookie} {now : Int} (h : codePut L nx c now = 0) (hp : putF L nx c now = (M, nx2)) : ACalls Tryz.prog 9 [jarV L nx, c.v, .int .i64 now] (.tup [jarV M nx2, .int .i64 0]) := by
  have := pPut_v h
  rw [hp] at this
  exact this
theorem p1 : ACalls Tryz.prog 9 [noJ, cI.v, .int .i64 1000] (.tup [jarV [cI] 1, .int .i64 0]) := (put_at (L := []) (nx := 0) (c := cI) (now := 1000) (by decide +kernel) (by rfl)).nf rfl
theorem p2 : ACalls Tryz.prog 9 [jarV [cI] 1, c8.v, .int .i64 1005] (.tup [jarV [c9] 1, .int .i64 0]) := put_at (by decide +kernel) (by rfl)
theorem p3 : ACalls Tryz.prog 9 [jarV [c9] 1, cI.v, .int .i64 1060] (.tup [jarV [] 2, .int .i64 0]) := put_at (by decide +kernel) (by rfl)
theorem p4 : ACalls Tryz.prog 12 [.agg [.fro [cI.v], .int .i64 0]] (.int .i64 4) := by
  have := jcheck_v (L := [cI]) (nx := 0)
  rw [show checkJ [cI] 0 = 4 by decide +kernel] at this
  exact this
theorem g1 : goesF c9 fS 1010 = true := by decide +kernel
theorem g2 : readyF fS 1010 = 0 := by decide +kernel
theorem p5 : ACallsG Tryz.prog gStr 15 [jarV [c9] 1, fS.v, .int .i64 1010] (.tup [jarV [cU] 1, .fro ([cU].map Cookie.v), .int .i64 0]) := by
  have h1 := jcheck_v (L := [c9]) (nx := 1)
  rw [show checkJ [c9] 1 = 0 by decide +kernel] at h1
  have h2 := ready_v (f := fS) (now := 1010)
  rw [g2] at h2
  have h3 : ∀ c ∈ [c9], ACallsG Tryz.prog gStr 21 [c.v, fS.v, .int .i64 1010] (.bool (goesF c fS 1010)) := fun c hc => by
    rw [List.mem_singleton] at hc
    subst hc
    exact goes_v (by decide) (by decide)
  have h4 := LineA.lineSort_v (L := [cU]) (by decide)
  have e1 : ([c9].filter fun c => goesF c fS 1010).map (fun c => { c with used := 1010 }) = [cU] := by
    rw [List.filter_cons, g1]; rfl
  have e2 : [c9].map (JarI.useF (fun c => goesF c fS 1010) 1010) = [cU] := by
    rw [List.map_cons, JarI.useF, g1]; rfl
  have e3 : SortP.sortF SortW.ckLt [cU] = [cU] := by decide +kernel
  rw [e3] at h4
  rw [← e1] at h4
  have := pGet_v (g := fun c => goesF c fS 1010) h1 h2 h3 (by decide) (G := [cU]) (by rw [e1] at h4 ⊢; exact h4)
  rw [e2] at this
  exact this
set_option maxRecDepth 100000 in
set_option maxHeartbeats 4000000 in
theorem begun_v : ACallsG Tryz.prog gStr 11 [] (.bool true) := by
  have e1 : ([cI].map Cookie.v).length = 1 := rfl
  have e2 : ([c9].map Cookie.v).length = 1 := rfl
  have e3 : ([cU].map Cookie.v).length = 1 := rfl
  have e4 : (([] : List Cookie).map Cookie.v).length = 0 := rfl
  have e5 : c9.created = 1000 := rfl
  have e6 : cU.used = 1010 := rfl
  refine funG0 tb_ok Tryz.func11 rfl Tryz.ntmps11 Tryz.results11 fun N => ?_
  repeat' (first | refine zt ?_ | (refine isR ?_; first | refine zo ?_ | refine zk shop_v ?_ | refine zk ident_v ?_ | refine zk p1 ?_ | refine zk p2 ?_ | refine zk p5 ?_ | refine zk p3 ?_ | refine zk p4 ?_ | refine x_bs tb_ok ?_ | refine zL ?_ | refine zc5 ?_ | refine zI ?_ | (refine zs5 ?_ ?_ <;> intro hc)) | refine awp_split rfl (fun hb => ?_) (fun hb => ?_) | refine zr ?_ | exact x_le)
  all_goals first | rfl | (exfalso; omega)
theorem pPutBad_v {L : List Cookie} {nx : Int} {c : Cookie} {now : Int} (h : codePut L nx c now ≠ 0) : ACalls Tryz.prog 9 [jarV L nx, c.v, .int .i64 now] (.tup [noJ, .int .i64 ((codePut L nx c now : Nat) : Int)]) := by
  have c1 := jcheck_v (L := L) (nx := nx)
  by_cases h0 : checkJ L nx = 0
  · rw [h0] at c1
    exact pPutBad2_v c1 h h0
  · have e : codePut L nx c now = checkJ L nx := by unfold codePut; rw [if_pos h0]
    rw [e]
    exact pPutBad1_v c1 (by omega)
theorem same_v {L : List Cookie} {nx : Int} : ACalls Tryz.prog 14 [jarV L nx, jarV L nx] (.bool true) := by
  have := sameJar_v (nx := nx) (nx2 := nx) (LineB.sameCookies_v (L := L) (K := L))
  simpa using this
theorem sameNo_v : ACalls Tryz.prog 14 [noJ, noJ] (.bool true) := (same_v (L := []) (nx := 0)).nf rfl
set_option maxRecDepth 100000 in
set_option maxHeartbeats 4000000 in
theorem tells_law {L : List Cookie} {nx : Int} {c : Cookie} {now : Int} : ACallsG Tryz.prog gStr 3 [jarV L nx, c.v, .int .i64 now] (.bool true) := by
  have c1 := jcheck_v (L := L) (nx := nx)
  have c2 := jarCheck_v (L := L) (nx := nx)
  by_cases h : codePut L nx c now = 0
  · have c3 := pPut_v h
    have c4 := putOf_v h
    have c5 := same_v (L := (putF L nx c now).1) (nx := (putF L nx c now).2)
    generalize (putF L nx c now).1 = M at *
    generalize (putF L nx c now).2 = nx2 at *
    generalize checkJ L nx = z at *
    refine funG3 tb_ok Tryz.func3 rfl Tryz.ntmps3 Tryz.results3 rfl fun N => ?_
    repeat' (first | refine zt ?_ | (refine isR ?_; first | refine zo ?_ | refine zk begun_v ?_ | refine zk c1 ?_ | refine zk c2 ?_ | refine zk c3 ?_ | refine zk c4 ?_ | refine zk c5 ?_ | refine zc5 ?_ | (refine zs5 ?_ ?_ <;> intro hc)) | refine awp_split rfl (fun hb => ?_) (fun hb => ?_) | refine zr ?_ | exact x_le)
    all_goals first | rfl | (exfalso; omega)
  · have c3 := pPutBad_v h
    have c4 := putBad_v h
    have c5 := sameNo_v
    generalize codePut L nx c now = q at *
    generalize checkJ L nx = z at *
    refine funG3 tb_ok Tryz.func3 rfl Tryz.ntmps3 Tryz.results3 rfl fun N => ?_
    repeat' (first | refine zt ?_ | (refine isR ?_; first | refine zo ?_ | refine zk begun_v ?_ | refine zk c1 ?_ | refine zk c2 ?_ | refine zk c3 ?_ | refine zk c4 ?_ | refine zk c5 ?_ | refine zc5 ?_ | (refine zs5 ?_ ?_ <;> intro hc)) | refine awp_split rfl (fun hb => ?_) (fun hb => ?_) | refine zr ?_ | exact x_le)
    all_goals first | rfl | (exfalso; omega)
end Go.Proofs.YtoehdmbogdpncaaGreatDoor.JarU
end
