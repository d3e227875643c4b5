/- Texts of the proof, joined: GoesW, GoesL, CookN. -/
import Derived.Test.YtkgdkpiacencjaaGreatDoorG9
import Derived.Test.YtkgdkpiacencjaaGreatDoorG11
import Derived.Test.YtkgdkpiacencjaaGreatDoorG16
import Derived.Test.YtkgdkpiacencjaaGreatDoorG7
import Derived.Test.YtkgdkpiacencjaaGreatDoorG19
section
namespace Go.Proofs.YtkgdkpiacencjaaGreatDoor.GoesW
open Go.RowKit Mem Abs TreeW HostP HostO HostA HostB HostC HostD HostE HostF HostG WordP WordS Globs PathT

theorem last_ends (o : List UInt8) : endsB o [47] = decide (o.getLast? = some 47) := by
  rw [Bool.eq_iff_iff, endsB_iff, decide_eq_true_eq, List.getLast?_eq_some_iff]
set_option maxRecDepth 100000 in
set_option maxHeartbeats 4000000 in
theorem path_v {p o : List UInt8} : ACalls Tryz.prog 90 [strT p, strT o] (.bool (pathF p o)) := by
  have c1 := cutPrefix_v (l := p) (m := o)
  have c2 := hasSuffix_v (l := o) (m := [47])
  rw [last_ends] at c2
  cases hp : pre p o with
  | false =>
    have e : cutP p o = (p, false) := by unfold cutP; rw [hp]; rfl
    have e2 : pathF p o = false := by unfold pathF; rw [hp]; rfl
    rw [e] at c1
    rw [e2]
    refine fun2 tb_ok Tryz.func90 rfl Tryz.ntmps90 Tryz.results90 rfl fun N => ?_
    repeat' (first | refine zt ?_ | (refine isR ?_; first | refine zo ?_ | refine zk c1 ?_ | refine zc5 ?_ | refine zI ?_ | (refine zs5 ?_ ?_ <;> intro hc)) | refine awp_split rfl (fun hb => ?_) (fun hb => ?_) | refine zr ?_ | exact x_le)
    rfl
  | true =>
    have e : cutP p o = (p.drop o.length, true) := by unfold cutP; rw [hp]; rfl
    have e2 : pathF p o = (decide (p.drop o.length = []) || decide (o.getLast? = some 47) || decide ((p.drop o.length).head? = some 47)) := by unfold pathF; rw [hp]; rfl
    rw [e] at c1
    rw [e2]
    dsimp only at c1
    generalize p.drop o.length = x at *
    generalize decide (o.getLast? = some 47) = z at *
    cases x with
    | nil =>
      refine fun2 tb_ok Tryz.func90 rfl Tryz.ntmps90 Tryz.results90 rfl fun N => ?_
      repeat' (first | refine zt ?_ | (refine isR ?_; first | refine zo ?_ | refine zk c1 ?_ | refine zc5 ?_ | refine zI ?_ | (refine zs5 ?_ ?_ <;> intro hc)) | refine awp_split rfl (fun hb => ?_) (fun hb => ?_) | refine zr ?_ | exact x_le)
      rfl
    | cons b x =>
      have e3 : (b :: x)[(0 : Int).toNat]? = some b := rfl
      have e4 : decide ((b :: x).head? = some 47) = decide ((b.toNat : Int) = 47) := by
        have := byte_eq (c := b) (d := 47)
        simp [this]
      have hnn : ¬ (b :: x : List UInt8) = [] := by simp
      have hb := b.toNat_lt
      rw [e4, decide_eq_false hnn]
      refine fun2 tb_ok Tryz.func90 rfl Tryz.ntmps90 Tryz.results90 rfl fun N => ?_
      repeat' (first | refine zt ?_ | (refine isR ?_; first | refine zo ?_ | refine zk c1 ?_ | refine x_callS (c2 _) (fun hb => ?_) (fun hb => ?_) | refine x_callS (c2) (fun hb => ?_) (fun hb => ?_) | refine zc5 ?_ | refine zI ?_ | (refine zs5 ?_ ?_ <;> intro hc)) | refine awp_split rfl (fun hb => ?_) (fun hb => ?_) | refine zr ?_ | exact x_le)
      all_goals (show V.bool _ = V.bool _; simp [*])
set_option maxRecDepth 100000 in
set_option maxHeartbeats 4000000 in
theorem pathMatch_v {p o : List UInt8} : ACalls Tryz.prog 23 [strT p, strT o] (.bool (pathF p o)) := ACalls.lim fun hl => by
  obtain ⟨hl1, hl⟩ := TreeW.str_lim hl
  obtain ⟨hl2, _⟩ := TreeW.str_lim hl
  by_cases h0 : o.length ≤ p.length
  · have e0 : p.take ((o.length : Int)).toNat = p.take o.length := rfl
    by_cases h1 : p.take ((o.length : Int)).toNat = o
    · have e2 : pathF p o = (decide (p.drop o.length = []) || decide (o.getLast? = some 47) || decide ((p.drop o.length).head? = some 47)) := by unfold pathF; rw [show pre p o = true from decide_eq_true h1]; rfl
      rw [e2]
      by_cases h2 : o.length = p.length
      · skip
        refine fun2 tb_ok Tryz.func23 rfl Tryz.ntmps23 Tryz.results23 rfl fun N => ?_
        repeat' (first | refine zt ?_ | (refine isR ?_; first | refine zo ?_ | refine zA ?_ | refine zL ?_ | refine zc3 ?_ | refine zc5 ?_ | refine zc6 ?_ | refine zI ?_ | refine zS ?_ | (refine zs3 ?_ ?_ <;> intro hc) | (refine zs5 ?_ ?_ <;> intro hc) | (refine zs6 ?_ ?_ <;> intro hc)) | refine awp_split rfl (fun hb => ?_) (fun hb => ?_) | refine zr ?_ | exact x_le)
        have : p.drop o.length = [] := List.drop_eq_nil_of_le (by omega)
        rw [this]; rfl
      · have hlt : o.length < p.length := by omega
        have h3 : ¬ p.drop o.length = [] := by
          intro e
          have := congrArg List.length e
          simp at this; omega
        rw [decide_eq_false h3, Bool.false_or]
        have e5 : p[((o.length : Int)).toNat]? = some p[o.length] := by show p[o.length]? = _; simp [hlt]
        have e6 : (p.drop o.length).head? = some p[o.length] := by rw [List.head?_drop]; simp [hlt]
        rw [e6]
        generalize p[o.length] = b at e5 e6
        have hb := b.toNat_lt
        have e7 : decide (some b = some (47 : UInt8)) = decide ((b.toNat : Int) = 47) := by
          have := byte_eq (c := b) (d := 47)
          simp [this]
        rw [e7]
        by_cases h4 : o = []
        · have h4' : o.length = 0 := by rw [h4]; rfl
          refine fun2 tb_ok Tryz.func23 rfl Tryz.ntmps23 Tryz.results23 rfl fun N => ?_
          repeat' (first | refine zt ?_ | (refine isR ?_; first | refine zo ?_ | refine zA ?_ | refine zL ?_ | refine zc3 ?_ | refine zc5 ?_ | refine zc6 ?_ | refine zI ?_ | refine zS ?_ | (refine zs3 ?_ ?_ <;> intro hc) | (refine zs5 ?_ ?_ <;> intro hc) | (refine zs6 ?_ ?_ <;> intro hc)) | refine awp_split rfl (fun hb => ?_) (fun hb => ?_) | refine zr ?_ | exact x_le)
          all_goals (show V.bool _ = V.bool _; simp [*])
        · have hpos : 0 < o.length := List.length_pos_iff.2 h4
          have e8 : o[((o.length : Int) - 1).toNat]? = some o[o.length - 1] := by
            rw [show ((o.length : Int) - 1).toNat = o.length - 1 by omega]; simp
          have e9 : o.getLast? = some o[o.length - 1] := by rw [List.getLast?_eq_getElem?]; simp
          rw [e9]
          generalize o[o.length - 1] = q at e8 e9
          have hq := q.toNat_lt
          have e10 : decide (some q = some (47 : UInt8)) = decide ((q.toNat : Int) = 47) := by
            have := byte_eq (c := q) (d := 47)
            simp [this]
          rw [e10]
          refine fun2 tb_ok Tryz.func23 rfl Tryz.ntmps23 Tryz.results23 rfl fun N => ?_
          repeat' (first | refine zt ?_ | (refine isR ?_; first | refine zo ?_ | refine zA ?_ | refine zL ?_ | refine zc3 ?_ | refine zc5 ?_ | refine zc6 ?_ | refine zI ?_ | refine zS ?_ | (refine zs3 ?_ ?_ <;> intro hc) | (refine zs5 ?_ ?_ <;> intro hc) | (refine zs6 ?_ ?_ <;> intro hc)) | refine awp_split rfl (fun hb => ?_) (fun hb => ?_) | refine zr ?_ | exact x_le)
          all_goals (show V.bool _ = V.bool _; simp [*])
    · have e2 : pathF p o = false := by unfold pathF; rw [show pre p o = false from decide_eq_false h1]; rfl
      rw [e2]
      refine fun2 tb_ok Tryz.func23 rfl Tryz.ntmps23 Tryz.results23 rfl fun N => ?_
      repeat' (first | refine zt ?_ | (refine isR ?_; first | refine zo ?_ | refine zA ?_ | refine zL ?_ | refine zc3 ?_ | refine zc5 ?_ | refine zc6 ?_ | refine zI ?_ | refine zS ?_ | (refine zs3 ?_ ?_ <;> intro hc) | (refine zs5 ?_ ?_ <;> intro hc) | (refine zs6 ?_ ?_ <;> intro hc)) | refine awp_split rfl (fun hb => ?_) (fun hb => ?_) | refine zr ?_ | exact x_le)
      rfl
  · have e2 : pathF p o = false := by
      unfold pathF
      cases h : pre p o with
      | false => rfl
      | true => exact absurd (pre_len h) h0
    rw [e2]
    refine fun2 tb_ok Tryz.func23 rfl Tryz.ntmps23 Tryz.results23 rfl fun N => ?_
    repeat' (first | refine zt ?_ | (refine isR ?_; first | refine zo ?_ | refine zA ?_ | refine zL ?_ | refine zc3 ?_ | refine zc5 ?_ | refine zc6 ?_ | refine zI ?_ | refine zS ?_ | (refine zs3 ?_ ?_ <;> intro hc) | (refine zs5 ?_ ?_ <;> intro hc) | (refine zs6 ?_ ?_ <;> intro hc)) | refine awp_split rfl (fun hb => ?_) (fun hb => ?_) | refine zr ?_ | exact x_le)
    rfl
/-! ### Goes -/
def mayF (c : Cookie) (f : From) : Bool := !(c.secure && !f.secure) && (!(c.httpOnly && f.script) && !(f.abroad && !decide (c.site = 1)))
def atF (c : Cookie) (f : From) : Bool := if c.hostOnly then decide (f.host = c.domain) else matchF f.host c.domain
def goesF (c : Cookie) (f : From) (now : Int) : Bool := decide (now < c.expiry) && (atF c f && (pathF f.path c.path && mayF c f))
abbrev askV (f : From) (now : Int) : Abs.V := .agg [.str (str f.host), .str (str f.path), .bool f.secure, .bool f.script, .bool f.abroad, .int .i64 now]
set_option maxRecDepth 100000 in
set_option maxHeartbeats 4000000 in
theorem live_v {c : Cookie} {now : Int} : ACalls Tryz.prog 22 [c.v, .int .i64 now] (.bool (decide (now < c.expiry))) := by
  refine fun2 tb_ok Tryz.func22 rfl Tryz.ntmps22 Tryz.results22 rfl fun N => ?_
  repeat' (first | refine zt ?_ | (refine isR ?_; first | refine zo ?_ | refine zc3 ?_ | (refine zs3 ?_ ?_ <;> intro hc)) | refine awp_split rfl (fun hb => ?_) (fun hb => ?_) | refine zr ?_ | exact x_le)
  all_goals (show V.bool _ = V.bool _; first | rfl | simp_all)
set_option maxRecDepth 100000 in
set_option maxHeartbeats 4000000 in
theorem alive_v {c : Cookie} {f : From} {now : Int} : ACalls Tryz.prog 57 [askV f now, c.v] (.bool (decide (now < c.expiry))) := by
  have c1 := live_v (c := c) (now := now)
  refine fun2 tb_ok Tryz.func57 rfl Tryz.ntmps57 Tryz.results57 rfl fun N => ?_
  repeat' (first | refine zt ?_ | (refine isR ?_; first | refine zo ?_ | refine zk c1 ?_) | refine awp_split rfl (fun hb => ?_) (fun hb => ?_) | refine zr ?_ | exact x_le)
  rfl
set_option maxRecDepth 100000 in
set_option maxHeartbeats 4000000 in
theorem along_v {c : Cookie} {f : From} {now : Int} : ACalls Tryz.prog 59 [askV f now, c.v] (.bool (pathF f.path c.path)) := by
  have c1 := path_v (p := f.path) (o := c.path)
  refine fun2 tb_ok Tryz.func59 rfl Tryz.ntmps59 Tryz.results59 rfl fun N => ?_
  repeat' (first | refine zt ?_ | (refine isR ?_; first | refine zo ?_ | refine zk c1 ?_) | refine awp_split rfl (fun hb => ?_) (fun hb => ?_) | refine zr ?_ | exact x_le)
  rfl
set_option maxRecDepth 100000 in
set_option maxHeartbeats 4000000 in
theorem at_v {c : Cookie} {f : From} {now : Int} (hd : c.domain.length ≤ 4398046511104) (hf : f.host.length ≤ 4398046511104) : ACallsG Tryz.prog gStr 58 [askV f now, c.v] (.bool (atF c f)) := by
  have c1 := match_v (l := f.host) (m := c.domain) hf hd
  unfold atF
  obtain ⟨f1, f2, f3, f4, f5⟩ := f
  obtain ⟨d1, d2, d3, d4, d5, d6, d7, d8, d9, d10, d11, d12, d13⟩ := c
  dsimp only at *
  cases d5
  · skip
    refine funG2 tb_ok Tryz.func58 rfl Tryz.ntmps58 Tryz.results58 rfl fun N => ?_
    repeat' (first | refine zt ?_ | (refine isR ?_; first | refine zo ?_ | refine zk c1 ?_ | refine zc5 ?_ | (refine zs5 ?_ ?_ <;> intro hc)) | refine awp_split rfl (fun hb => ?_) (fun hb => ?_) | refine zr ?_ | exact x_le)
    rfl
  · skip
    refine funG2 tb_ok Tryz.func58 rfl Tryz.ntmps58 Tryz.results58 rfl fun N => ?_
    repeat' (first | refine zt ?_ | (refine isR ?_; first | refine zo ?_ | refine zk c1 ?_ | refine zc5 ?_ | (refine zs5 ?_ ?_ <;> intro hc)) | refine awp_split rfl (fun hb => ?_) (fun hb => ?_) | refine zr ?_ | exact x_le)
    all_goals (show V.bool _ = V.bool _; first | rfl | simp_all)
set_option maxRecDepth 100000 in
set_option maxHeartbeats 4000000 in
theorem may_v {c : Cookie} {f : From} {now : Int} : ACalls Tryz.prog 60 [askV f now, c.v] (.bool (mayF c f)) := by
  unfold mayF
  obtain ⟨f1, f2, f3, f4, f5⟩ := f
  obtain ⟨d1, d2, d3, d4, d5, d6, d7, d8, d9, d10, d11, d12, d13⟩ := c
  dsimp only at *
  cases d6
  · cases d7
    · cases f5
      all_goals
        refine fun2 tb_ok Tryz.func60 rfl Tryz.ntmps60 Tryz.results60 rfl fun N => ?_
        repeat' (first | refine zt ?_ | (refine isR ?_; first | refine zo ?_ | refine zc6 ?_ | (refine zs6 ?_ ?_ <;> intro hc)) | refine awp_split rfl (fun hb => ?_) (fun hb => ?_) | refine zr ?_ | exact x_le)
        all_goals (show V.bool _ = V.bool _; first | rfl | simp_all)
    · cases f4 <;> cases f5
      all_goals
        refine fun2 tb_ok Tryz.func60 rfl Tryz.ntmps60 Tryz.results60 rfl fun N => ?_
        repeat' (first | refine zt ?_ | (refine isR ?_; first | refine zo ?_ | refine zc6 ?_ | (refine zs6 ?_ ?_ <;> intro hc)) | refine awp_split rfl (fun hb => ?_) (fun hb => ?_) | refine zr ?_ | exact x_le)
        all_goals (show V.bool _ = V.bool _; first | rfl | simp_all)
  · cases f3
    · skip
      refine fun2 tb_ok Tryz.func60 rfl Tryz.ntmps60 Tryz.results60 rfl fun N => ?_
      repeat' (first | refine zt ?_ | (refine isR ?_; first | refine zo ?_ | refine zc6 ?_ | (refine zs6 ?_ ?_ <;> intro hc)) | refine awp_split rfl (fun hb => ?_) (fun hb => ?_) | refine zr ?_ | exact x_le)
      all_goals (show V.bool _ = V.bool _; first | rfl | simp_all)
    · cases d7
      · cases f5
        all_goals
          refine fun2 tb_ok Tryz.func60 rfl Tryz.ntmps60 Tryz.results60 rfl fun N => ?_
          repeat' (first | refine zt ?_ | (refine isR ?_; first | refine zo ?_ | refine zc6 ?_ | (refine zs6 ?_ ?_ <;> intro hc)) | refine awp_split rfl (fun hb => ?_) (fun hb => ?_) | refine zr ?_ | exact x_le)
          all_goals (show V.bool _ = V.bool _; first | rfl | simp_all)
      · cases f4 <;> cases f5
        all_goals
          refine fun2 tb_ok Tryz.func60 rfl Tryz.ntmps60 Tryz.results60 rfl fun N => ?_
          repeat' (first | refine zt ?_ | (refine isR ?_; first | refine zo ?_ | refine zc6 ?_ | (refine zs6 ?_ ?_ <;> intro hc)) | refine awp_split rfl (fun hb => ?_) (fun hb => ?_) | refine zr ?_ | exact x_le)
          all_goals (show V.bool _ = V.bool _; first | rfl | simp_all)
set_option maxRecDepth 100000 in
set_option maxHeartbeats 4000000 in
theorem goes_v {c : Cookie} {f : From} {now : Int} (hd : c.domain.length ≤ 4398046511104) (hf : f.host.length ≤ 4398046511104) : ACallsG Tryz.prog gStr 21 [c.v, f.v, .int .i64 now] (.bool (goesF c f now)) := by
  have c1 := alive_v (c := c) (f := f) (now := now)
  have c2 := at_v (c := c) (f := f) (now := now) hd hf
  have c3 := along_v (c := c) (f := f) (now := now)
  have c4 := may_v (c := c) (f := f) (now := now)
  have e : goesF c f now = (decide (now < c.expiry) && (atF c f && (pathF f.path c.path && mayF c f))) := rfl
  rw [e]
  generalize decide (now < c.expiry) = x at *
  generalize atF c f = y at *
  generalize pathF f.path c.path = z at *
  generalize mayF c f = u at *
  refine funG3 tb_ok Tryz.func21 rfl Tryz.ntmps21 Tryz.results21 rfl fun N => ?_
  repeat' (first | with_reducible refine rounds_on ?_ | with_reducible refine awp_rounds 6 ?_ | refine zt ?_ | (refine isR ?_; first | refine zo ?_ | refine x_callvS (c1 _) (fun hb => ?_) (fun hb => ?_) | refine x_callvS (c1) (fun hb => ?_) (fun hb => ?_) | refine x_callvS (c2 _) (fun hb => ?_) (fun hb => ?_) | refine x_callvS (c2) (fun hb => ?_) (fun hb => ?_) | refine x_callvS (c3 _) (fun hb => ?_) (fun hb => ?_) | refine x_callvS (c3) (fun hb => ?_) (fun hb => ?_) | refine x_callvS (c4 _) (fun hb => ?_) (fun hb => ?_) | refine x_callvS (c4) (fun hb => ?_) (fun hb => ?_) | refine zA ?_ | refine zc1 ?_ | refine zI ?_ | (refine zs1 ?_ ?_ <;> intro hc)) | refine awp_split rfl (fun hb => ?_) (fun hb => ?_) | refine zr ?_ | exact x_le)
  all_goals (show V.bool _ = V.bool _; first | rfl | simp_all)
end Go.Proofs.YtkgdkpiacencjaaGreatDoor.GoesW
end

section
namespace Go.Proofs.YtkgdkpiacencjaaGreatDoor.GoesL
open Go.RowKit Mem Abs TreeW HostP HostO HostA HostB HostC HostD HostE HostF HostG WordP WordS Globs PathT GoesW

def identC : Cookie := ⟨([105, 100] : List UInt8), ([55] : List UInt8), ([115, 104, 111, 112, 46, 99, 111, 109] : List UInt8), ([47, 99, 97, 114, 116] : List UInt8), false, true, false, true, 0, 1060, 1000, 1000, 0⟩
def shopC : From := ⟨([119, 119, 119, 46, 115, 104, 111, 112, 46, 99, 111, 109] : List UInt8), ([47, 99, 97, 114, 116, 47, 97, 100, 100] : List UInt8), true, false, false⟩
def slowC : From := ⟨([119, 119, 119, 46, 115, 104, 111, 112, 46, 99, 111, 109] : List UInt8), ([47, 99, 97, 114, 116, 47, 97, 100, 100] : List UInt8), false, false, false⟩
def farC : From := ⟨([119, 119, 119, 46, 115, 104, 111, 112, 46, 99, 111, 109] : List UInt8), ([47, 99, 97, 114, 116, 47, 97, 100, 100] : List UInt8), true, false, true⟩
theorem b1 : goesF identC shopC 1059 = true := by decide +kernel
theorem b2 : goesF identC shopC 1060 = false := by decide +kernel
theorem b3 : goesF identC slowC 1000 = false := by decide +kernel
theorem b4 : goesF identC farC 1000 = false := by decide +kernel
set_option maxRecDepth 100000 in
set_option maxHeartbeats 4000000 in
theorem ident_v : ACalls Tryz.prog 56 [] identC.v := by
  refine fun0 tb_ok Tryz.func56 rfl Tryz.ntmps56 Tryz.results56 fun N => ?_
  repeat' (first | refine zt ?_ | (refine isR ?_; first | refine zo ?_) | refine awp_split rfl (fun hb => ?_) (fun hb => ?_) | refine zr ?_ | exact x_le)
  rfl
set_option maxRecDepth 100000 in
set_option maxHeartbeats 4000000 in
theorem shop_v : ACalls Tryz.prog 44 [] shopC.v := by
  refine fun0 tb_ok Tryz.func44 rfl Tryz.ntmps44 Tryz.results44 fun N => ?_
  repeat' (first | refine zt ?_ | (refine isR ?_; first | refine zo ?_) | refine awp_split rfl (fun hb => ?_) (fun hb => ?_) | refine zr ?_ | exact x_le)
  rfl
set_option maxRecDepth 100000 in
set_option maxHeartbeats 4000000 in
theorem begun_v : ACallsG Tryz.prog gStr 20 [] (.bool true) := by
  have c1 := goes_v (c := identC) (f := shopC) (now := 1059) (by decide) (by decide)
  have c2 := goes_v (c := identC) (f := shopC) (now := 1060) (by decide) (by decide)
  have c3 := goes_v (c := identC) (f := slowC) (now := 1000) (by decide) (by decide)
  have c4 := goes_v (c := identC) (f := farC) (now := 1000) (by decide) (by decide)
  have c5 := live_v (c := identC) (now := 0)
  rw [b1] at c1; rw [b2] at c2; rw [b3] at c3; rw [b4] at c4
  rw [show decide ((0 : Int) < identC.expiry) = true from rfl] at c5
  refine funG0 tb_ok Tryz.func20 rfl Tryz.ntmps20 Tryz.results20 fun N => ?_
  repeat' (first | refine zt ?_ | (refine isR ?_; first | refine zo ?_ | refine zk shop_v ?_ | refine zk ident_v ?_ | refine zk c1 ?_ | refine zk c2 ?_ | refine zk c3 ?_ | refine zk c4 ?_ | refine zk c5 ?_) | refine awp_split rfl (fun hb => ?_) (fun hb => ?_) | refine zr ?_ | exact x_le)
  rfl
end Go.Proofs.YtkgdkpiacencjaaGreatDoor.GoesL
end

section
namespace Go.Proofs.YtkgdkpiacencjaaGreatDoor.CookN
open Go.RowKit Mem Abs TreeW WordP WordS HostP HostO HostA HostB HostC HostD PathT Globs StampB StampG ClockP ClockW ClockO ClockV CookP CookQ CookW CookV CookL Both
theorem back_is {L : List Suffix} {r : Raw} {f : From} {now : Int} (h : (cookF L r f now).2 = 0) (ha : f.abroad = false) : GoesW.goesF (cookF L r f now).1 f now = (decide (now < (cookF L r f now).1.expiry) && pathF f.path (cookF L r f now).1.path) := by
  obtain ⟨h1, h2, h3⟩ := goes_back h
  unfold GoesW.goesF GoesW.atF GoesW.mayF
  rw [h3, h1, h2, ha]
  simp
set_option maxRecDepth 100000 in
set_option maxHeartbeats 4000000 in
theorem back_law {L : List Suffix} {r : Raw} {f : From} {now : Int} (hr : ∀ a ∈ r.attrs, a.value.length ≤ 140737488355328) : ACallsG Tryz.prog gBoth 8 [SufW.sufT L, r.v, f.v, .int .i64 now] (.bool true) := by
  have c1 := make_v (L := L) (r := r) (f := f) (now := now) hr
  have g1 := str_g GoesL.begun_v
  by_cases h0 : (cookF L r f now).2 = 0
  · cases ha : f.abroad with
    | true =>
      rw [h0] at c1
      generalize (cookF L r f now).1 = c at *
      obtain ⟨f1, f2, f3, f4, f5⟩ := f
      dsimp only at ha
      subst ha
      refine funG4 tb_ok Tryz.func8 rfl Tryz.ntmps8 Tryz.results8 rfl fun N => ?_
      repeat' (first | refine zt ?_ | (refine isR ?_; first | refine zo ?_ | refine zk c1 ?_ | refine zk begun_v ?_ | refine zk g1 ?_ | refine zc5 ?_ | refine zc6 ?_ | (refine zs5 ?_ ?_ <;> intro hc) | (refine zs6 ?_ ?_ <;> intro hc)) | refine awp_split rfl (fun hb => ?_) (fun hb => ?_) | refine zr ?_ | exact x_le)
      rfl
    | false =>
      have hb := back_is h0 ha
      have hd := domain_plain h0
      obtain ⟨_, _, k3, _⟩ := cook_ok h0
      have hh := host_len (ready_ok k3).1
      have hl : (cookF L r f now).1.domain.length ≤ 253 := by
        rcases hd with ⟨_, d2⟩ | ⟨_, _, d3, _⟩
        · rw [d2]; exact hh
        · exact host_len d3
      rw [h0] at c1
      generalize (cookF L r f now).1 = c at *
      have c2 := str_g (GoesW.goes_v (c := c) (f := f) (now := now) (by omega) (by omega))
      have c3 := GoesW.live_v (c := c) (now := now)
      have c4 := GoesW.pathMatch_v (p := f.path) (o := c.path)
      rw [hb] at c2
      clear hb hd
      generalize decide (now < c.expiry) = x at *
      generalize pathF f.path c.path = y at *
      obtain ⟨f1, f2, f3, f4, f5⟩ := f
      dsimp only at ha
      subst ha
      cases x
      · skip
        refine funG4 tb_ok Tryz.func8 rfl Tryz.ntmps8 Tryz.results8 rfl fun N => ?_
        repeat' (first | refine zt ?_ | (refine isR ?_; first | refine zo ?_ | refine zk c1 ?_ | refine zk begun_v ?_ | refine zk g1 ?_ | refine zk c2 ?_ | refine zk c3 ?_ | refine zk c4 ?_ | refine zc5 ?_ | refine zc6 ?_ | (refine zs5 ?_ ?_ <;> intro hc) | (refine zs6 ?_ ?_ <;> intro hc)) | refine awp_split rfl (fun hb => ?_) (fun hb => ?_) | refine zr ?_ | exact x_le)
        rfl
      · cases y
        · skip
          refine funG4 tb_ok Tryz.func8 rfl Tryz.ntmps8 Tryz.results8 rfl fun N => ?_
          repeat' (first | refine zt ?_ | (refine isR ?_; first | refine zo ?_ | refine zk c1 ?_ | refine zk begun_v ?_ | refine zk g1 ?_ | refine zk c2 ?_ | refine zk c3 ?_ | refine zk c4 ?_ | refine zc5 ?_ | refine zc6 ?_ | (refine zs5 ?_ ?_ <;> intro hc) | (refine zs6 ?_ ?_ <;> intro hc)) | refine awp_split rfl (fun hb => ?_) (fun hb => ?_) | refine zr ?_ | exact x_le)
          rfl
        · skip
          refine funG4 tb_ok Tryz.func8 rfl Tryz.ntmps8 Tryz.results8 rfl fun N => ?_
          repeat' (first | refine zt ?_ | (refine isR ?_; first | refine zo ?_ | refine zk c1 ?_ | refine zk begun_v ?_ | refine zk g1 ?_ | refine zk c2 ?_ | refine zk c3 ?_ | refine zk c4 ?_ | refine zc5 ?_ | refine zc6 ?_ | (refine zs5 ?_ ?_ <;> intro hc) | (refine zs6 ?_ ?_ <;> intro hc)) | refine awp_split rfl (fun hb => ?_) (fun hb => ?_) | refine zr ?_ | exact x_le)
          rfl
  · generalize cookF L r f now = q at *
    refine funG4 tb_ok Tryz.func8 rfl Tryz.ntmps8 Tryz.results8 rfl fun N => ?_
    repeat' (first | refine zt ?_ | (refine isR ?_; first | refine zo ?_ | refine zk c1 ?_ | refine zk begun_v ?_ | refine zk g1 ?_ | refine zc5 ?_ | refine zc6 ?_ | (refine zs5 ?_ ?_ <;> intro hc) | (refine zs6 ?_ ?_ <;> intro hc)) | refine awp_split rfl (fun hb => ?_) (fun hb => ?_) | refine zr ?_ | exact x_le)
    rfl
end Go.Proofs.YtkgdkpiacencjaaGreatDoor.CookN
end
