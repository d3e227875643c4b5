/- Texts of the proof, joined: JarU, RjP, PurA, HostE, HostF, HostG, SufW, GovA. -/
import Derived.Test.YtpffdbplcgmilaaGreatDoorG19
import Derived.Test.YtpffdbplcgmilaaGreatDoorG13
import Derived.Test.YtpffdbplcgmilaaGreatDoorG15
import Derived.Test.YtpffdbplcgmilaaGreatDoorG9
import Derived.Test.YtpffdbplcgmilaaGreatDoorG16
import Derived.Test.YtpffdbplcgmilaaGreatDoorG17
import Derived.Test.YtpffdbplcgmilaaGreatDoorG11
import Derived.Test.YtpffdbplcgmilaaGreatDoorG10
section
namespace Go.Proofs.YtpffdbplcgmilaaGreatDoor.JarU
open Go.RowKit Mem Abs Scan JarP JarQ JarA JarB JarC JarE JarL JarJ JarK JarS JarT JarH Rdy Globs GoesW

abbrev cI : Cookie := ⟨([105, 100] : List UInt8), ([55] : List UInt8), ([115, 104, 111, 112, 46, 99, 111, 109] : List UInt8), ([47, 99, 97, 114, 116] : List UInt8), false, true, false, true, 0, 1060, 1000, 1000, 0⟩
abbrev c8 : Cookie := ⟨([105, 100] : List UInt8), ([56] : List UInt8), ([115, 104, 111, 112, 46, 99, 111, 109] : List UInt8), ([47, 99, 97, 114, 116] : List UInt8), false, true, false, true, 0, 1060, 1005, 1005, 0⟩
abbrev c9 : Cookie := ⟨([105, 100] : List UInt8), ([56] : List UInt8), ([115, 104, 111, 112, 46, 99, 111, 109] : List UInt8), ([47, 99, 97, 114, 116] : List UInt8), false, true, false, true, 0, 1060, 1000, 1005, 0⟩
abbrev cU : Cookie := ⟨([105, 100] : List UInt8), ([56] : List UInt8), ([115, 104, 111, 112, 46, 99, 111, 109] : List UInt8), ([47, 99, 97, 114, 116] : List UInt8), false, true, false, true, 0, 1060, 1000, 1010, 0⟩
abbrev fS : From := ⟨([119, 119, 119, 46, 115, 104, 111, 112, 46, 99, 111, 109] : List UInt8), ([47, 99, 97, 114, 116, 47, 97, 100, 100] : List UInt8), true, false, false⟩
theorem put_at {L M : List Cookie} {nx nx2 : Int} {c : Cookie} {now : Int} (h : codePut L nx c now = 0) (hp : putF L nx c now = (M, nx2)) : ACalls Tryz.prog 115 [jarV L nx, c.v, .int .i64 now] (.tup [jarV M nx2, .int .i64 0]) := by
  have := pPut_v h
  rw [hp] at this
  exact this
theorem p1 : ACalls Tryz.prog 115 [noJ, cI.v, .int .i64 1000] (.tup [jarV [cI] 1, .int .i64 0]) := (put_at (L := []) (nx := 0) (c := cI) (now := 1000) (by decide +kernel) (by rfl)).nf rfl
theorem p2 : ACalls Tryz.prog 115 [jarV [cI] 1, c8.v, .int .i64 1005] (.tup [jarV [c9] 1, .int .i64 0]) := put_at (by decide +kernel) (by rfl)
theorem p3 : ACalls Tryz.prog 115 [jarV [c9] 1, cI.v, .int .i64 1060] (.tup [jarV [] 2, .int .i64 0]) := put_at (by decide +kernel) (by rfl)
theorem p4 : ACalls Tryz.prog 19 [.agg [.fro [cI.v], .int .i64 0]] (.int .i64 4) := by
  have := jcheck_v (L := [cI]) (nx := 0)
  rw [show checkJ [cI] 0 = 4 by decide +kernel] at this
  exact this
theorem g1 : goesF c9 fS 1010 = true := by decide +kernel
theorem g2 : readyF fS 1010 = 0 := by decide +kernel
theorem p5 : ACallsG Tryz.prog gStr 7 [jarV [c9] 1, fS.v, .int .i64 1010] (.tup [jarV [cU] 1, .fro ([cU].map Cookie.v), .int .i64 0]) := by
  have h1 := jcheck_v (L := [c9]) (nx := 1)
  rw [show checkJ [c9] 1 = 0 by decide +kernel] at h1
  have h2 := ready_v (f := fS) (now := 1010)
  rw [g2] at h2
  have h3 : ∀ c ∈ [c9], ACallsG Tryz.prog gStr 9 [c.v, fS.v, .int .i64 1010] (.bool (goesF c fS 1010)) := fun c hc => by
    rw [List.mem_singleton] at hc
    subst hc
    exact goes_v (by decide) (by decide)
  have h4 := LineA.lineSort_v (L := [cU]) (by decide)
  have e1 : ([c9].filter fun c => goesF c fS 1010).map (fun c => { c with used := 1010 }) = [cU] := by
    rw [List.filter_cons, g1]; rfl
  have e2 : [c9].map (JarI.useF (fun c => goesF c fS 1010) 1010) = [cU] := by
    rw [List.map_cons, JarI.useF, g1]; rfl
  have e3 : SortP.sortF SortW.ckLt [cU] = [cU] := by decide +kernel
  rw [e3] at h4
  rw [← e1] at h4
  have := pGet_v (g := fun c => goesF c fS 1010) h1 h2 h3 (by decide) (G := [cU]) (by rw [e1] at h4 ⊢; exact h4)
  rw [e2] at this
  exact this
end Go.Proofs.YtpffdbplcgmilaaGreatDoor.JarU
end

section
namespace Go.Proofs.YtpffdbplcgmilaaGreatDoor.RjP
open Go.RowKit Mem Abs Scan JarP JarQ JarA JarB JarC JarE JarF JarI JarJ JarK JarH JarL JarM JarO JarS JarT JarU Globs GoesW Rdy SortP SortW LineA

theorem ready_host {f : From} {now : Int} (h : readyF f now = 0) : f.host.length ≤ 4398046511104 := by
  unfold readyF at h
  split at h
  · rename_i q
    have e := q.1
    unfold hostOk at e
    have e := of_decide_eq_true e
    unfold HostP.canonF at e
    split at e
    · exact absurd (congrArg Prod.snd e) (by simp)
    · omega
  · cases h
abbrev ownJ (k n : Nat) (nx : Int) : Abs.V := .agg [.own k 0 n, .int .i64 nx]
theorem ev_len : ∀ (most : Nat) (p : Cookie → Bool) (f : Nat) (M : List Cookie), (evF most p f M).length ≤ M.length
  | _, _, 0, M => Nat.le_refl _
  | most, p, f + 1, M => by
    rw [evF]
    split
    · exact Nat.le_refl _
    · split
      · exact Nat.le_refl _
      · exact Nat.le_trans (ev_len most p f _) (List.length_eraseIdx_le _ _)
end Go.Proofs.YtpffdbplcgmilaaGreatDoor.RjP
end

section
namespace Go.Proofs.YtpffdbplcgmilaaGreatDoor.PurA
open Go.RowKit Mem Abs Globs HostP HostC PathT Rdy Scan JarP JarQ JarA JarB JarC JarE JarL JarM PolP PolA PolB RjP
open ConC (conI intsV)

abbrev TJR : Nat := 25
abbrev rJ (k n : Nat) (nx : Int) : Blk := .els TJR 2 [ownJ k n nx]
set_option maxRecDepth 100000 in
set_option maxHeartbeats 4000000 in
theorem keepYes_m {c : Cookie} {K : List Cookie} {nx now : Int} (hK : K.length ≤ 100) (h : now < c.expiry) : MCalls Tryz.prog 108 [c.v, .fp [.int .i64 now] 0, .loc 0 0 0] [rJ 1 K.length nx, rC K] (.tup []) [some (rJ 2 (K ++ [c]).length nx), none, some (rC (K ++ [c]))] := by
  have c1 := goesLive_v (c := c) (now := now)
  rw [decide_eq_true h] at c1
  have hml : (K.map Cookie.v).length = K.length := List.length_map _
  refine mfun tb_ok Tryz.func108 rfl Tryz.ntmps108 Tryz.results108 rfl rfl rfl rfl fun N pl => ?_
  repeat' (first | refine zt ?_ | (refine isR ?_; first | refine zo ?_ | refine zk c1 ?_ | refine x_app Cookie.v (a1 := (c)) tb_ok ?_ | refine x_bs tb_ok ?_) | refine awp_split rfl (fun hb => ?_) (fun hb => ?_) | refine x_mret [0, 1, 2] ?_ ?_ | refine x_mnor [0, 1, 2] ?_ ?_ | refine zr ?_ | exact x_le)
  all_goals first | rfl | exact .on (.ren rfl) (.no (.on (.same (nl_map fun _ => rfl)) .nil))
set_option maxRecDepth 100000 in
set_option maxHeartbeats 4000000 in
theorem keepNo_m {c : Cookie} {K : List Cookie} {nx now : Int} (h : ¬ now < c.expiry) : MCalls Tryz.prog 108 [c.v, .fp [.int .i64 now] 0, .loc 0 0 0] [rJ 1 K.length nx, rC K] (.tup []) [some (rJ 1 K.length nx), some (rC K)] := by
  have c1 := goesLive_v (c := c) (now := now)
  rw [decide_eq_false h] at c1
  refine mfun tb_ok Tryz.func108 rfl Tryz.ntmps108 Tryz.results108 rfl rfl rfl rfl fun N pl => ?_
  repeat' (first | refine zt ?_ | (refine isR ?_; first | refine zo ?_ | refine zk c1 ?_ | refine x_bs tb_ok ?_) | refine awp_split rfl (fun hb => ?_) (fun hb => ?_) | refine x_mret [0, 1] ?_ ?_ | refine x_mnor [0, 1] ?_ ?_ | refine zr ?_ | exact x_le)
  all_goals first | rfl | exact .on (.ren rfl) (.on (.same (nl_map fun _ => rfl)) .nil)
abbrev stR (p : Pol) (g : Int) (P : Nat → Bool) (U : List Int) (now nx : Int) (L K : List Cookie) (k : Nat) : S := ⟨[(5, .fp (V.cells (polV p)) 0), (6, .fp (V.cells (conI g P U)) 0), (8, .loc 0 0 0), (9, .loc 1 0 0), (10, .fn (.func 108) [] [.fp [.int .i64 now] 0, .loc 1 0 0]), (18, .fro (L.map Cookie.v)), (19, nV L.length), (20, nV k)], [(0, some (.els TJR 2 [noJ])), (1, some (rJ 2 K.length nx)), (2, some (rC K))], 3, 35⟩
set_option maxRecDepth 100000 in
set_option maxHeartbeats 4000000 in
theorem raw_m {p : Pol} {g : Int} {P : Nat → Bool} {U : List Int} {now nx : Int} {L : List Cookie} (h : OkP p) (hL : L.length ≤ 12) (hd : ∀ c ∈ L, c.domain.length ≤ 4398046511104) (hc : ∀ c ∈ L, isJ c.created = true) : MCallsG Tryz.prog gStr 77 [jarV L nx, polV p, conI g P U, .int .i64 now] [] (ownJ 0 (keptF p P U now L).length nx) [some (rC (keptF p P U now L))] := by
  have hml : (L.map Cookie.v).length = L.length := List.length_map _
  refine mfunG tb_ok Tryz.func77 rfl Tryz.ntmps77 Tryz.results77 rfl rfl rfl rfl fun N pl => ?_
  repeat' (first | refine zt ?_ | (refine isR ?_; first | refine zo ?_ | refine zA ?_ | refine zL ?_ | refine zc1 ?_ | refine zI ?_ | (refine zs1 ?_ ?_ <;> intro hc)) | refine awp_split rfl (fun hb => ?_) (fun hb => ?_) | refine zr ?_ | exact x_le)
  refine awp_nameR 1 0 TC 13 rfl rfl (by decide) rfl ?_
  refine awp_forN (fun k => stR p g P U now nx L (keptF p P U now (L.take k)) k) (fun k => k ≤ L.length) L.length 0 (by exact x_le) (Nat.zero_le _) ?_
  intro k hk
  by_cases hk2 : k < L.length
  · have hx : L[k]? = some L[k] := by simp [hk2]
    have hon := kept_on (p := p) (P := P) (U := U) (now := now) L hx
    have hK : (keptF p P U now (L.take k)).length ≤ 100 := Nat.le_trans (kept_len _) (by simp; omega)
    have hdc := hd _ (List.getElem_mem hk2)
    have c3 := lets_v (g := g) (P := P) (U := U) h hdc
    have c4 := clamped_v h hdc (hc _ (List.getElem_mem hk2))
    generalize L[k] = c at *
    have hm := at_map (f := Cookie.v) hx
    generalize keptF p P U now (L.take (k + 1)) = K1 at *
    generalize keptF p P U now (L.take k) = K at *
    generalize clampF p c = c2 at *
    generalize letsF p P U c = b at *
    cases b with
    | false =>
      rw [if_neg (by simp), List.append_nil] at hon
      subst hon
      repeat' (first | refine zt ?_ | (refine isR ?_; first | refine zo ?_ | refine zk c3 ?_ | refine zA ?_ | refine zL ?_ | refine zc1 ?_ | refine zI ?_ | (refine zs1 ?_ ?_ <;> intro hc)) | refine awp_split rfl (fun hb => ?_) (fun hb => ?_) | refine zr ?_ | exact x_le)
      refine ⟨by omega, hk2, ?_⟩
      exact (by exact x_len [0, 1, 2])
    | true =>
      by_cases hv : now < c2.expiry
      · rw [if_pos ⟨rfl, hv⟩] at hon
        subst hon
        have c5 := keepYes_m (c := c2) (nx := nx) (now := now) hK hv
        repeat' (first | refine zt ?_ | (refine isR ?_; first | refine zo ?_ | refine zk c3 ?_ | refine zk c4 ?_ | refine x_mv [1,2] [4] (c5 _) ?_ | refine x_m0v [1,2] [4] (c5 _) ?_ | refine x_mv [1,2] [4] (c5) ?_ | refine x_m0v [1,2] [4] (c5) ?_ | refine zA ?_ | refine zL ?_ | refine zc1 ?_ | refine zI ?_ | (refine zs1 ?_ ?_ <;> intro hc)) | refine awp_split rfl (fun hb => ?_) (fun hb => ?_) | refine zr ?_ | exact x_le)
        refine ⟨by omega, hk2, ?_⟩
        exact (by exact x_len [0, 1, 4])
      · rw [if_neg (fun q => hv q.2), List.append_nil] at hon
        subst hon
        have c5 := keepNo_m (K := K1) (c := c2) (nx := nx) (now := now) hv
        repeat' (first | refine zt ?_ | (refine isR ?_; first | refine zo ?_ | refine zk c3 ?_ | refine zk c4 ?_ | refine x_mv [1,2] [] (c5 _) ?_ | refine x_m0v [1,2] [] (c5 _) ?_ | refine x_mv [1,2] [] (c5) ?_ | refine x_m0v [1,2] [] (c5) ?_ | refine zA ?_ | refine zL ?_ | refine zc1 ?_ | refine zI ?_ | (refine zs1 ?_ ?_ <;> intro hc)) | refine awp_split rfl (fun hb => ?_) (fun hb => ?_) | refine zr ?_ | exact x_le)
        refine ⟨by omega, hk2, ?_⟩
        exact (by exact x_len [0, 1, 2])
  · obtain rfl : k = L.length := by omega
    rw [List.take_length]
    repeat' (first | refine zt ?_ | (refine isR ?_; first | refine zo ?_ | refine zA ?_ | refine zL ?_ | refine zc1 ?_ | refine zI ?_ | (refine zs1 ?_ ?_ <;> intro hc)) | refine awp_split rfl (fun hb => ?_) (fun hb => ?_) | refine x_mret [2] ?_ ?_ | refine x_mnor [2] ?_ ?_ | refine zr ?_ | exact x_le)
    · rfl
    · exact .on (.same (nl_map fun _ => rfl)) .nil
set_option maxRecDepth 100000 in
set_option maxHeartbeats 4000000 in
theorem right_v {p : Pol} {g : Int} {P : Nat → Bool} {U : List Int} : ACalls Tryz.prog 138 [polV p, conI g P U] (.int .i64 ((codeRight p g U : Nat) : Int)) := by
  have c1 := pcheck_v (p := p)
  have c2 := ConC.check_v (g := g) (P := P) (L := U)
  unfold codeRight
  by_cases h : checkP p = 0
  · rw [if_neg (by rw [h]; simp)]
    rw [h] at c1
    refine fun2 tb_ok Tryz.func138 rfl Tryz.ntmps138 Tryz.results138 rfl fun N => ?_
    repeat' (first | refine zt ?_ | (refine isR ?_; first | refine zo ?_ | refine zk c1 ?_ | refine zk c2 ?_ | refine zc6 ?_ | (refine zs6 ?_ ?_ <;> intro hc)) | refine awp_split rfl (fun hb => ?_) (fun hb => ?_) | refine zr ?_ | exact x_le)
    all_goals first | rfl | (exfalso; omega)
  · rw [if_pos h]
    generalize checkP p = q at *
    refine fun2 tb_ok Tryz.func138 rfl Tryz.ntmps138 Tryz.results138 rfl fun N => ?_
    repeat' (first | refine zt ?_ | (refine isR ?_; first | refine zo ?_ | refine zk c1 ?_ | refine zk c2 ?_ | refine zc6 ?_ | (refine zs6 ?_ ?_ <;> intro hc)) | refine awp_split rfl (fun hb => ?_) (fun hb => ?_) | refine zr ?_ | exact x_le)
    all_goals first | rfl | (exfalso; omega)
def c0 : Cookie := ⟨[], [], [], [], false, false, false, false, 0, 0, 0, 0, 0⟩
set_option maxRecDepth 100000 in
set_option maxHeartbeats 4000000 in
theorem gateOk_v {p : Pol} {g : Int} {P : Nat → Bool} {U : List Int} {c : Cookie} (h : OkP p) (h1 : codeRight p g U = 0) (h2 : isJ c.created = true) (hd : c.domain.length ≤ 4398046511104) (h3 : letsF p P U c = true) : ACallsG Tryz.prog gStr 114 [polV p, conI g P U, c.v] (.tup [(clampF p c).v, .int .i64 0]) := by
  have c2 := right_v (p := p) (g := g) (P := P) (U := U)
  rw [h1] at c2
  have c3 := is_v (n := c.created)
  rw [h2] at c3
  have c4 := lets_v (g := g) (P := P) (U := U) h hd
  rw [h3] at c4
  have c5 := clamped_v h hd h2
  generalize clampF p c = d at *
  refine funG3 tb_ok Tryz.func114 rfl Tryz.ntmps114 Tryz.results114 rfl fun N => ?_
  repeat' (first | refine zt ?_ | (refine isR ?_; first | refine zo ?_ | refine zk c2 ?_ | refine zk c3 ?_ | refine zk c4 ?_ | refine zk c5 ?_ | refine zc6 ?_ | (refine zs6 ?_ ?_ <;> intro hc)) | refine awp_split rfl (fun hb => ?_) (fun hb => ?_) | refine zr ?_ | exact x_le)
  all_goals first | rfl | (exfalso; omega)
end Go.Proofs.YtpffdbplcgmilaaGreatDoor.PurA
end

section
namespace Go.Proofs.YtpffdbplcgmilaaGreatDoor.HostE
open Go.RowKit Go.Shelf Mem WordP OneB WordS Range HostP Globs
open WordR (grown_of_below box_same boxLen boxLen_of)
open WordC (cut cut_none cut_at cut_any)
open WordW (str str_size mkB)
attribute [local go_sem] Oper.semAt_some

/-- The variables of the package, whatever else turns. -/
def Same (W w : World) : Prop := ∀ k, k < gN → W.heap[k]? = w.heap[k]?
theorem glob_same {W w : World} (h : Abs.GlOk gStr (fun _ => False) w) (hs : Same W w) (hz : w.heap.size ≤ W.heap.size) : Abs.GlOk gStr (fun _ => False) W := by
  refine ⟨Nat.le_trans h.1 hz, fun b hb => hb.elim, ?_⟩
  have e : (fun i => if i < gStr.n then W.heap[i]? else none) = fun i => if i < gStr.n then w.heap[i]? else none := by
    funext i
    by_cases hi : i < gStr.n
    · rw [if_pos hi, if_pos hi]; exact hs i hi
    · rw [if_neg hi, if_neg hi]
  rw [e]; exact h.2.2
/-- Address, on values. -/
theorem address_any (s : ByteArray) (hs : s.size ≤ 4398046511104) (w : World) (hG : Abs.GlOk gStr (fun _ => False) w) : Calls Tryz.prog 71 #[.string s] w (Gives (.bool (address s.data.toList)) w) := by
  have h := HostC.address_v (l := s.data.toList) (by simpa using hs)
  refine (h (fun _ => False) w #[.string s] hG (fun _ h => h.elim) rfl fun i v x hv hx => ?_).mono fun e w' ⟨x, h1, h2, h3⟩ => ⟨by rw [h1, Abs.fz_bool h3], h2⟩
  rcases i with _ | i
  · cases hv; cases hx
    rw [Abs.strT, Abs.str_data]
    exact .str (by simp only [Abs.SLIM]; omega)
  · simp at hv
/-- What is handed out still. -/
def rest (alone : Bool) (cur : List UInt8) (more : Bool) : List (List UInt8) := bif more then (bif alone then [cur] else cur :: after cur) else []
theorem rest_none {cur : List UInt8} (h : cur.contains 46 = false) : rest false cur true = cur :: rest false [] false := by
  unfold rest
  simp [after_none cur h]
theorem rest_at {a r : List UInt8} (h : a.contains 46 = false) : rest false (a ++ 46 :: r) true = (a ++ 46 :: r) :: rest false r true := by
  unfold rest
  simp [after_at a r h]
theorem rest_ups (l : List UInt8) : rest (address l) l (decide (l ≠ [])) = upsF l := by
  unfold rest upsF
  by_cases h : l = []
  · simp [h]
  · cases address l <;> simp [h]
def mu (b : Nat) (v : Value) (W : World) : Nat := match v with
  | .bool true => boxLen b W + 1
  | _ => 0
set_option maxRecDepth 100000 in
set_option maxHeartbeats 4000000 in
theorem iter_hands (b : Nat) (_hb8 : gN ≤ b) (s : ByteArray) (w : World) (hs : s.size ≤ 4398046511104) (hG : Abs.GlOk gStr (fun _ => False) w) (n : Nat) (hn : 1 ≤ n) (hb : Boxed w b 9 (.string s)) :
    Hands Fence.wide n Tryz.prog 244 #[.pointer (some ⟨b, 0, none⟩)] (fun x : ByteArray => #[Value.string x]) b (fun k => k = b ∨ k < gN) (fun xs => xs = (upsF s.data.toList).map str) (s.size + 1) w := by
  intro l J W hW hz hJ hY h0
  have hbW : Boxed W b 9 (.string s) := box_same hb (hW b (.inl rfl))
  have hGW : Abs.GlOk gStr (fun _ => False) W := glob_same hG (fun k hk => hW k (.inr hk)) hz
  have cb := hbW.cell
  have AD := address_any s hs
  have hR := rest_ups s.data.toList
  have hdn : (decide (s.data.toList ≠ [])) = !s.toList.isEmpty := by
    rw [ByteArray.toList_eq]
    cases s.data.toList <;> simp
  rw [hdn] at hR
  have hR := Lib.hid hR
  clear hdn
  generalize address s.data.toList = al at AD hR
  generalize upsF s.data.toList = U at hR ⊢
  refine callsIn_of_wp Tryz.func244 rfl trivial ?_ rfl
  simp only [Tryz.ntmps244, List.size_toArray, List.length_cons, List.length_nil, Nat.reduceAdd, Nat.reduceSub, Array.replicate_succ, Array.replicate_zero, List.push_toArray, List.append_toArray, List.nil_append, List.cons_append]
  gi_wp2
  refine ⟨trivial, ?_⟩
  refine (callsIn_wide.2 (AD _ hGW)).mono ?_
  rintro e w2 ⟨rfl, hb2⟩
  have g2 := grown_of_below hb2 none
  have hb' := hbW.kept g2 (by simp)
  have hj' := hJ _ _ _ none h0 g2 (.inl rfl)
  have cb := hb'.cell
  clear AD hGW hbW
  gi_wp2
  have hfirst : (U.map str) = ([] : List ByteArray) ++ (rest al s.data.toList (!s.toList.isEmpty)).map str := by rw [hR.out]; rfl
  have HF := Lib.hid hfirst
  clear hfirst hR cb
  generalize (!s.toList.isEmpty) = em at HF
  gi_loopw [4] (fun v wr => ∃ (pre : List ByteArray) (cur : ByteArray) (more : Bool), v = .bool more ∧ Boxed wr b 9 (.string cur) ∧ RowKit.Hid (U.map str = pre ++ (rest al cur.data.toList more).map str) ∧ (more = true → pre.length + cur.size ≤ s.size) ∧ J pre wr) (fun v wr => mu b v wr)
  case atStart => exact ⟨[], s, em, rfl, hb', HF, fun _ => by simp, hj'⟩
  case round =>
    clear hb' hj' HF hb2 g2 hb hG h0
    obtain ⟨pre, cur, more, rfl, hb, hsp, hlen, hj⟩ := hrel
    have cb := hb.cell
    cases more with
    | false =>
      have hfin : pre = U.map str := by rw [hsp.out]; simp [rest]
      clear hsp
      gi_wp2
      refine bodyPost_end (results_none rfl _ _ _) rfl ?_
      exact ⟨⟨_, rfl⟩, pre, hfin, hj⟩
    | true =>
      have hlen := hlen rfl
      have hbl := boxLen_of hb
      obtain ⟨fn, tmps, assign, body, hy, hRn⟩ := hY pre cur wr hj (by omega)
      cases al with
      | true =>
        have hfin : pre ++ [cur] = U.map str := by rw [hsp.out]; simp only [rest, cond_true, List.map_cons, List.map_nil]; rw [show str cur.data.toList = cur from mkB cur]
        clear hsp
        gi_wp2
        refine hRn.mono ?_
        rintro e W3 ⟨rfl, hj3, hk3, hz3⟩
        gi_wp2
        refine bodyPost_ret (results_none rfl _ _ _) rfl ?_
        exact ⟨⟨_, rfl⟩, pre ++ [cur], hfin, hj3⟩
      | false =>
        have CUT := fun w' => cut_any cur 46 w' (by omega)
        rcases first_at 46 cur.data.toList with h | ⟨a, r, hl, h⟩
        · rw [cut_none h] at CUT
          have hnext : U.map str = (pre ++ [cur]) ++ (rest false (str []).data.toList false).map str := by
            rw [hsp.out, rest_none h]; simp only [List.map_cons, rest, cond_false, List.map_nil, List.append_assoc, List.cons_append, List.nil_append]
            rw [show str cur.data.toList = cur from mkB cur]
          have HF := Lib.hid hnext
          have CUT := Lib.hid CUT
          clear h hnext hsp
          gi_wp2
          refine hRn.mono ?_
          rintro e W3 ⟨rfl, hj3, hk3, hz3⟩
          have hb3 := box_same hb (hk3 b (.inl rfl))
          have cb := hb3.cell
          gi_wp2
          refine ⟨trivial, ?_⟩
          refine (callsIn_wide.2 (CUT.out _)).mono ?_
          rintro e w4 ⟨rfl, hb4⟩
          have g4 := grown_of_below hb4 none
          have hb5 := hb3.kept g4 (by simp)
          have hj5 := hJ _ _ _ none hj3 g4 (.inl rfl)
          have cb := hb5.cell
          have fb := hb5.frozen
          gi_wp2
          go_roundw
          case rel => exact ⟨pre ++ [cur], str [], false, rfl, hb5.set _, HF, fun h => (by cases h), hJ _ _ _ (some b) hj5 (grownBy_setCell' _ _ _) (.inr rfl)⟩
          case measure => simp [mu]
        · have hcut : cut 46 cur.data.toList = (a, r, true) := by rw [hl]; exact cut_at h
          have hz : a.length + 1 + r.length = cur.size := by
            have : cur.data.toList.length = cur.size := by simp
            rw [hl] at this; simp at this; omega
          rw [hcut] at CUT
          have hnext : U.map str = (pre ++ [cur]) ++ (rest false (str r).data.toList true).map str := by
            rw [hsp.out, hl, rest_at h, ← hl]
            simp only [List.map_cons, List.append_assoc, List.cons_append, List.nil_append]
            rw [show str cur.data.toList = cur from mkB cur, show (str r).data.toList = r from by simp [str]]
          have HF := Lib.hid hnext
          have CUT := Lib.hid CUT
          clear h hnext hsp hl hcut
          gi_wp2
          refine hRn.mono ?_
          rintro e W3 ⟨rfl, hj3, hk3, hz3⟩
          have hb3 := box_same hb (hk3 b (.inl rfl))
          have cb := hb3.cell
          gi_wp2
          refine ⟨trivial, ?_⟩
          refine (callsIn_wide.2 (CUT.out _)).mono ?_
          rintro e w4 ⟨rfl, hb4⟩
          have g4 := grown_of_below hb4 none
          have hb5 := hb3.kept g4 (by simp)
          have hj5 := hJ _ _ _ none hj3 g4 (.inl rfl)
          have cb := hb5.cell
          have fb := hb5.frozen
          gi_wp2
          go_roundw
          case rel => exact ⟨pre ++ [cur], str r, true, rfl, hb5.set _, HF, fun _ => by rw [str_size]; simp; omega, hJ _ _ _ (some b) hj5 (grownBy_setCell' _ _ _) (.inr rfl)⟩
          case measure => simp only [mu]; rw [boxLen_of (hb5.set _), hbl, str_size]; simp; omega
set_option maxHeartbeats 1000000 in
theorem made_any (s : ByteArray) (w : World) :
    Calls Tryz.prog 237 #[.string s] w (fun e w' => e = .returned (.func (.func 244) #[] #[.pointer (some ⟨w.heap.size, 0, none⟩)]) ∧ w' = w.alloc (.cells #[.string s] 9)) := by
  go_enter Tryz.func237, Tryz.ntmps237
  go_wp2_with fail
  go_ret
  exact ⟨rfl, rfl⟩
open WordR (own_lower own_far info_str) in
set_option maxRecDepth 100000 in
set_option maxHeartbeats 4000000 in
/-- What an iterator hands out, collected. -/
theorem appendSeq_any (gf : Nat) (lb : Array Value) (b : Nat) (K : Nat → Prop) (L : List ByteArray) (m : Nat) (w : World) (hb : K b) (hK : ∀ k, K k → k < w.heap.size) (hm : m ≤ 4398046511105) (eg : ∀ args w, (callFunc gf args).run Tryz.prog w = .ok (.enter gf args) w)
    (hseq : ∀ n, 1 ≤ n → ∀ W : World, (∀ k, K k → W.heap[k]? = w.heap[k]?) → w.heap.size ≤ W.heap.size → Hands Fence.wide n Tryz.prog gf lb (fun x : ByteArray => #[Value.string x]) b K (fun xs => xs = L) m W) :
    Calls Tryz.prog 243 #[.slice none 0 0, .func (.func gf) #[] lb] w (fun e w' => ∃ v, e = .returned v ∧ w'.ownsRow w.heap.size 9 1 v L.length (L.map Value.string) ∧ (∀ k, k < w.heap.size → k ≠ b → w'.heap[k]? = w.heap[k]?) ∧ w'.os = w.os ∧ w'.tape = w.tape ∧ w'.output = w.output ∧ w.heap.size ≤ w'.heap.size) := by
  refine (callsIn_wide (n := 3)).1 ?_
  obtain ⟨i0, hi, hz0, hz1, hz2⟩ := info_parts info_str
  refine callsIn_of_wp_marks Tryz.func243 rfl trivial ?_ rfl
  simp only [Tryz.ntmps243, List.size_toArray, List.length_cons, List.length_nil, Nat.reduceAdd, Nat.reduceSub, Array.replicate_succ, Array.replicate_zero, List.push_toArray, List.append_toArray, List.nil_append, List.cons_append]
  have bO := Boxed.new w 89 (.slice none 0 0)
  have hB0 : w.grownBy (w.alloc (.cells #[.slice none 0 0] 89)) (some b) := World.grownBy_alloc w _ _
  have hz : (w.alloc (.cells #[.slice none 0 0] 89)).heap.size = w.heap.size + 1 := by simp
  gi_wp2
  have hKW : ∀ k, K k → (w.alloc (.cells #[.slice none 0 0] 89)).heap[k]? = w.heap[k]? := fun k hk => Below.heap_alloc _ _ _ (hK k hk)
  generalize (w.alloc (.cells #[.slice none 0 0] 89)) = W0 at bO hB0 hz hKW ⊢
  have hbz := hK b hb
  refine range_hands rfl (by omega) (gf := gf) (lb := lb) rfl trivial eg (K := K) hb (fun k hk => by have := hK k hk; omega)
    (hseq _ (by omega) W0 hKW hB0.size) (fun _ => rfl)
    (fun pre W => (∃ v, Boxed W w.heap.size 89 v ∧ W.ownsRow (w.heap.size + 1) 9 1 v pre.length (pre.map Value.string)) ∧ w.grownBy W (some b)) ?hI ?h0
    (fun x => { tmps := #[.slice none 0 0, .func (.func gf) #[] lb, .pointer (some ⟨w.heap.size, 0, none⟩), undef, .slice none 0 0, .string x, .func (.func gf) #[] lb, .string x, undef, undef, undef, undef, undef], defers := [] }) ?assign ?body ?done
  case hI =>
    rintro xs W W' row ⟨⟨v, hv, hr⟩, hB⟩ hg hrow
    refine ⟨⟨v, hv.kept hg (fun e => ?_), hr.kept hg ?_⟩, ?_⟩
    · rcases hrow _ e.symm with h | ⟨h, _⟩ <;> omega
    · cases row with
      | none =>
        by_cases h : v.ownBlock = none
        · exact .inl h
        · exact .inr h
      | some r =>
        refine .inr (fun e => ?_)
        rcases hrow r rfl with h | ⟨h, o, ho, hc⟩
        · exact own_far hr (by omega) e
        · rcases hr.2 with ⟨rfl, _⟩ | ⟨g, cap, cur, rfl, e2, e3, _⟩
          · simp [Value.ownBlock] at e
          · obtain rfl : g = r := by simpa [Value.ownBlock] using e
            rw [e3] at ho; cases ho; cases hc
    · refine ⟨hg.os.trans hB.os, hg.tape.trans hB.tape, hg.output.trans hB.output, Nat.le_trans hB.size hg.size, fun k hk hne => (hg.block k (Nat.lt_of_lt_of_le hk hB.size) fun e => ?_).trans (hB.block k hk hne)⟩
      rcases hrow k e.symm with h | ⟨h, _⟩
      · exact hne (by rw [h])
      · omega
  case h0 => exact ⟨⟨_, bO, World.ownsRow_nil _ _ _ _⟩, hB0⟩
  case assign =>
    intro l x W K hK
    gi_wp2
    exact hK
  case body =>
    rintro l pre x W ⟨⟨v, hv, hrow⟩, hB⟩ hlt hsz
    have hc := hv.cell
    have hw := hB.size
    have hml : pre.length + 1 ≤ maxLen := by unfold maxLen; omega
    have hbd : (pre.length + 1) * 16 ≤ 140737488355328 := by omega
    gi_wp2_with (gi_at_builtin; refine wpListIn_append_own _ rfl _ _ 89 rfl (w.heap.size + 1) 9 i0 (.string ⟨#[]⟩) 1 16 Tryz.underlying89 hi hz0 hz1 hz2 rfl (by decide) _ _ _ rfl (hrow.alloc _) ⟨W.heap.size, 0, none⟩ 1 1 [.string x] rfl rfl (cell_one_new _ _ _) (by simp [Value.oneCell']) hml hbd (by simp; omega) ?_; intro v' w1 hown' hgrow _; obtain ⟨g', cap', rfl⟩ := ownsRow_succ hown'; obtain ⟨hv1, hv2, hr2, hk2, hb2⟩ := hv.appended (by decide) (own_lower (a := w.heap.size) hrow (by omega)) hB.size (Nat.le_refl _) (own_lower hown' (by omega)) hgrow; have hc1 := hv1.cell; have hf1 := hv1.frozen)
    exact ⟨hk2, fun k hk => hb2.block k (hK k hk), ⟨_, hv2, by simpa using hown'.kept (grownBy_setCell' w1 _ _) (.inr (hv1.not_row (by decide) hown').symm)⟩, ⟨hb2.os.trans hB.os, hb2.tape.trans hB.tape, hb2.output.trans hB.output, Nat.le_trans hw hb2.size, fun k hk hne => (hb2.block k hk).trans (hB.block k hk hne)⟩⟩
  case done =>
    rintro D ys W hD hys ⟨⟨v, hv, hrow⟩, hB⟩ hK
    have hc := hv.cell
    gi_wp2
    refine ⟨by simp, .inl ⟨_, _, rfl, run_takeDeferred hK, ?_⟩⟩
    refine ⟨_, results_tmp rfl _ _ _, v, rfl, ?_, ?_⟩
    · have hr := ownsRow_putObj (own_lower (a := w.heap.size) hrow (by omega)) (.deferred none) hK rfl
      rw [hys] at hr
      simpa using hr
    · exact ⟨fun k hk hne => (World.putObj_heap_other (by omega)).trans (hB.block k hk (fun e => hne (by simpa using e))), hB.os, hB.tape, hB.output, by simpa using hB.size⟩
set_option maxRecDepth 100000 in
set_option maxHeartbeats 1000000 in
theorem collect_any (gf : Nat) (lb : Array Value) (b : Nat) (K : Nat → Prop) (L : List ByteArray) (m : Nat) (w : World) (hb : K b) (hK : ∀ k, K k → k < w.heap.size) (hm : m ≤ 4398046511105) (eg : ∀ args w, (callFunc gf args).run Tryz.prog w = .ok (.enter gf args) w)
    (hseq : ∀ n, 1 ≤ n → ∀ W : World, (∀ k, K k → W.heap[k]? = w.heap[k]?) → w.heap.size ≤ W.heap.size → Hands Fence.wide n Tryz.prog gf lb (fun x : ByteArray => #[Value.string x]) b K (fun xs => xs = L) m W) :
    Calls Tryz.prog 236 #[.func (.func gf) #[] lb] w (fun e w' => ∃ v, e = .returned v ∧ w'.ownsRow w.heap.size 9 1 v L.length (L.map Value.string) ∧ (∀ k, k < w.heap.size → k ≠ b → w'.heap[k]? = w.heap[k]?) ∧ w'.os = w.os ∧ w'.tape = w.tape ∧ w'.output = w.output ∧ w.heap.size ≤ w'.heap.size) := by
  have AS := appendSeq_any gf lb b K L m w hb hK hm eg hseq
  clear hseq
  go_enter Tryz.func236, Tryz.ntmps236
  go_wp2_with fail
  with_reducible refine AS.mono ?_
  rintro e w' ⟨v, rfl, h2⟩
  go_wp2_with fail
  go_ret
  exact ⟨_, rfl, h2⟩
set_option maxRecDepth 100000 in
set_option maxHeartbeats 1000000 in
theorem ups_any (s : ByteArray) (hs : s.size ≤ 4398046511104) (w : World) (hG : Abs.GlOk gStr (fun _ => False) w) : Calls Tryz.prog 218 #[.string s] w (GivesRow w.heap.size 9 (upsF s.data.toList).length (((upsF s.data.toList).map str).map Value.string) w) := by
  have hgn : gN ≤ w.heap.size := hG.1
  have hi : ∀ n, 1 ≤ n → ∀ W : World, (∀ k, (k = w.heap.size ∨ k < gN) → W.heap[k]? = (w.alloc (.cells #[.string s] 9)).heap[k]?) → (w.alloc (.cells #[.string s] 9)).heap.size ≤ W.heap.size → Hands Fence.wide n Tryz.prog 244 #[.pointer (some ⟨w.heap.size, 0, none⟩)] (fun x : ByteArray => #[Value.string x]) w.heap.size (fun k => k = w.heap.size ∨ k < gN) (fun xs => xs = (upsF s.data.toList).map str) (s.size + 1) W := fun n hn W hW hz => by
    refine iter_hands w.heap.size hgn s W hs ?_ n hn ?_
    · refine glob_same hG (fun k hk => (hW k (.inr hk)).trans (Below.heap_alloc _ _ _ (by omega))) (by simp at hz; omega)
    · exact box_same (Boxed.new w 9 (.string s)) (hW _ (.inl rfl))
  have CO := collect_any 244 #[.pointer (some ⟨w.heap.size, 0, none⟩)] w.heap.size (fun k => k = w.heap.size ∨ k < gN) ((upsF s.data.toList).map str) (s.size + 1) (w.alloc (.cells #[.string s] 9)) (.inl rfl) (fun k hk => by simp; omega) (by omega) (enters_of Tryz.func244 (by kernel_rfl) rfl) hi
  clear hi
  go_enter Tryz.func218, Tryz.ntmps218
  go_wp2_with fail
  with_reducible refine (made_any s _).mono ?_
  rintro e w1 ⟨rfl, rfl⟩
  go_wp2_with fail
  with_reducible refine CO.mono ?_
  rintro e w' ⟨v, rfl, h2, h3, h4, h5, h6, h7⟩
  go_wp2_with fail
  go_ret
  have hz : (w.alloc (.cells #[.string s] 9)).heap.size = w.heap.size + 1 := by simp
  rw [hz] at h2 h3 h7
  refine ⟨_, rfl, WordR.own_lower (a := w.heap.size) (by simpa using h2) (by omega), ⟨h4, h5, h6, by omega, fun k hk => (h3 k (by omega) (by omega)).trans (Below.heap_alloc _ _ _ hk)⟩⟩
open Abs TreeW in
theorem ups_v {l : List UInt8} (hl : l.length ≤ 4398046511104) : ACallsG Tryz.prog gStr 218 [strT l] (strsT (upsF l)) := fun N w vs hG hN hlen hv => by
  obtain ⟨vs⟩ := vs
  match vs, hlen with
  | [x0], _ =>
    obtain ⟨rfl, h0⟩ := fz_str (hv 0 _ x0 rfl rfl)
    refine (ups_any _ (by rw [Abs.str_size]; exact hl) w (hG.sub fun _ h => h.elim)).mono fun e w' ⟨v, h1, h2, h3⟩ => ⟨_, h1, h3, ?_⟩
    rw [str_toList, List.map_map] at h2
    have hle := after_len l
    have hml : ∀ x ∈ upsF l, x.length ≤ l.length := fun x hx => by
      unfold upsF at hx
      split at hx
      · cases hx
      · split at hx
        · rw [List.mem_singleton] at hx; rw [hx]; exact Nat.le_refl _
        · rcases List.mem_cons.1 hx with rfl | hx
          · exact Nat.le_refl _
          · obtain ⟨y, rfl⟩ := (mem_after x l).1 hx
            simp; omega
    refine fz_strs hN ?_ (fun x hx => ?_) h2
    · unfold upsF
      split
      · simp [LIM]
      · split
        · simp [LIM]
        · simp only [List.length_cons, LIM]; omega
    · have := hml x hx; simp only [SLIM]; omega
end Go.Proofs.YtpffdbplcgmilaaGreatDoor.HostE
end

section
namespace Go.Proofs.YtpffdbplcgmilaaGreatDoor.HostF
open Go.RowKit Mem Abs HostP HostO HostA HostB HostC HostD HostE TreeW WordP WordS Globs

theorem b1 : canonF ([87, 87, 87, 46, 69, 120, 97, 109, 112, 108, 101, 46, 67, 79, 77] : List UInt8) = (([119, 119, 119, 46, 101, 120, 97, 109, 112, 108, 101, 46, 99, 111, 109] : List UInt8), 0) := by decide +kernel
theorem b2 : canonF ([97, 46, 46, 98] : List UInt8) = ([], 1) := by decide +kernel
theorem b3 : address ([49, 48, 46, 48, 46, 48, 46, 50, 53, 53] : List UInt8) = true := by decide +kernel
theorem b4 : address ([49, 48, 46, 48, 46, 48, 46, 50, 53, 54] : List UInt8) = false := by decide +kernel
theorem b5 : matchF ([119, 119, 119, 46, 101, 120, 97, 109, 112, 108, 101, 46, 99, 111, 109] : List UInt8) ([101, 120, 97, 109, 112, 108, 101, 46, 99, 111, 109] : List UInt8) = true := by decide +kernel
theorem b6 : matchF ([119, 119, 119, 101, 120, 97, 109, 112, 108, 101, 46, 99, 111, 109] : List UInt8) ([101, 120, 97, 109, 112, 108, 101, 46, 99, 111, 109] : List UInt8) = false := by decide +kernel
theorem b7 : matchF ([49, 46, 49, 48, 46, 48, 46, 48] : List UInt8) ([49, 48, 46, 48, 46, 48] : List UInt8) = false := by decide +kernel
theorem b8 : upsF ([97, 46, 98, 46, 99] : List UInt8) = [([97, 46, 98, 46, 99] : List UInt8), ([98, 46, 99] : List UInt8), ([99] : List UInt8)] := by decide +kernel
end Go.Proofs.YtpffdbplcgmilaaGreatDoor.HostF
end

section
namespace Go.Proofs.YtpffdbplcgmilaaGreatDoor.HostG
open Go.RowKit Mem Abs HostP HostO HostA HostB HostC HostD HostE HostF TreeW WordP WordS Globs

end Go.Proofs.YtpffdbplcgmilaaGreatDoor.HostG
end

section
namespace Go.Proofs.YtpffdbplcgmilaaGreatDoor.SufW
open Go.RowKit Mem Abs HostP HostO HostA HostB HostC HostD HostE HostF HostG TreeW WordP WordS Globs SufP

theorem cut_up (l : List UInt8) : (cutF 46 l).2.1 = up l := by
  rcases first_at 46 l with h | ⟨a, r, rfl, h⟩
  · rw [cutF_none h, up_none h]
  · rw [cutF_at h, up_at h]
set_option maxRecDepth 100000 in
set_option maxHeartbeats 4000000 in
theorem above_v {l : List UInt8} : ACalls Tryz.prog 72 [strT l] (strT (up l)) := by
  have c1 := cut_v (c := 46) (l := l)
  rw [cut_up] at c1
  refine fun1 tb_ok Tryz.func72 rfl Tryz.ntmps72 Tryz.results72 rfl fun N => ?_
  repeat' (first | refine zt ?_ | (refine isR ?_; first | refine zo ?_ | refine zk c1 ?_) | refine awp_split rfl (fun hb => ?_) (fun hb => ?_) | refine zr ?_ | exact x_le)
  rfl
theorem hostOk_eq (l : List UInt8) : hostOk l = (decide ((canonF l).2 = 0) && decide ((canonF l).1 = l)) := by
  unfold hostOk
  obtain ⟨a, b⟩ := canonF l
  simp [Bool.and_comm, Prod.mk.injEq, Bool.decide_and]
set_option maxRecDepth 100000 in
set_option maxHeartbeats 4000000 in
theorem host_v {l : List UInt8} : ACalls Tryz.prog 53 [strT l] (.bool (hostOk l)) := by
  have c1 := canon_v (l := l)
  rw [hostOk_eq]
  generalize canonF l = p at *
  obtain ⟨h, n⟩ := p
  dsimp only [pairT] at c1
  refine fun1 tb_ok Tryz.func53 rfl Tryz.ntmps53 Tryz.results53 rfl fun N => ?_
  by_cases h0 : n = 0
  · subst h0
    by_cases h1 : h = l
    · subst h1
      repeat' (first | refine zt ?_ | (refine isR ?_; first | refine zo ?_ | refine zk c1 ?_ | refine zc5 ?_ | (refine zs5 ?_ ?_ <;> intro hc)) | refine awp_split rfl (fun hb => ?_) (fun hb => ?_) | refine zr ?_ | exact x_le)
      simp; rfl
    · skip
      repeat' (first | refine zt ?_ | (refine isR ?_; first | refine zo ?_ | refine zk c1 ?_ | refine zc5 ?_ | (refine zs5 ?_ ?_ <;> intro hc)) | refine awp_split rfl (fun hb => ?_) (fun hb => ?_) | refine zr ?_ | exact x_le)
      simp [h1]; rfl
  · skip
    repeat' (first | refine zt ?_ | (refine isR ?_; first | refine zo ?_ | refine zk c1 ?_ | refine zc5 ?_ | (refine zs5 ?_ ?_ <;> intro hc)) | refine awp_split rfl (fun hb => ?_) (fun hb => ?_) | refine zr ?_ | exact x_le)
    simp [h0]; rfl
abbrev sufT (L : List Suffix) : Abs.V := .fro (L.map Suffix.v)
def ekS : Ty := (nth tb 136).get rfl
theorem eq_suf (a b : Suffix) : eqK ekS a.v b.v = decide (a = b) := by
  have h : eqK ekS a.v b.v = (decide (a.kind = b.kind) && (eqS (strT a.name) (strT b.name) && true)) := rfl
  rw [h, eqS_str, Bool.and_true]
  obtain ⟨a1, a2⟩ := a
  obtain ⟨b1, b2⟩ := b
  by_cases h1 : a1 = b1 <;> by_cases h2 : a2 = b2 <;> simp [h1, h2]
def mk (p : Suffix × Nat) : Abs.V × Abs.V := (p.1.v, .int .i64 (p.2 : Int))
theorem find_suf (a : Suffix) (M : List (Suffix × Nat)) : (a ∉ M.map (·.1) ∧ findE ekS a.v (M.map mk) 0 = none) ∨ (a ∈ M.map (·.1) ∧ ∃ i n, findE ekS a.v (M.map mk) 0 = some i ∧ (M.map mk)[i]? = some (a.v, .int .i64 (n : Nat))) := by
  rcases findE_is (e := ekS) (k := a.v) (es := M.map mk) (i := 0) with h | ⟨j, p, h1, h2, h3, h4⟩
  · by_cases hm : a ∈ M.map (·.1)
    · obtain ⟨q, hq, rfl⟩ := List.mem_map.1 hm
      obtain ⟨i, hi⟩ := List.mem_iff_getElem?.1 hq
      exfalso
      have : ∀ (M : List (Suffix × Nat)) (i k : Nat), M[i]? = some q → findE ekS q.1.v (M.map mk) k ≠ none := by
        intro M
        induction M with
        | nil => intro i k h; simp at h
        | cons x M ih =>
          intro i k h
          rw [List.map_cons, findE]
          cases hb : eqK ekS q.1.v (mk x).1 with
          | true => simp
          | false =>
            rw [cond_false]
            rcases i with _ | i
            · simp at h; subst h
              have := eq_suf x.1 x.1
              rw [show (mk x).1 = x.1.v from rfl, this] at hb
              simp at hb
            · exact ih i (k + 1) (by simpa using h)
      exact this M i 0 hi h
    · exact .inl ⟨hm, h⟩
  · rw [List.getElem?_map, Option.map_eq_some_iff] at h2
    obtain ⟨q, hq, rfl⟩ := h2
    have e : a = q.1 := by
      rw [show (mk q).1 = q.1.v from rfl, eq_suf] at h3
      simpa using h3
    subst e
    refine .inr ⟨List.mem_map.2 ⟨q, List.mem_of_getElem? hq, rfl⟩, j, q.2, by simpa using h1, ?_⟩
    rw [List.getElem?_map, hq]; rfl
set_option maxRecDepth 100000 in
set_option maxHeartbeats 4000000 in
theorem has_v {M : List (Suffix × Nat)} {a : Suffix} : MCalls Tryz.prog 219 [.mp 0, .int .i64 a.kind, strT a.name] [.map (M.map mk)] (.bool (decide (a ∈ M.map (·.1)))) [some (.map (M.map mk))] := by
  refine mfun tb_ok Tryz.func219 rfl Tryz.ntmps219 Tryz.results219 rfl rfl rfl rfl fun N pl => ?_
  rcases find_suf a M with ⟨h1, h2⟩ | ⟨h1, i, n, h2, h3⟩
  · rw [decide_eq_false h1]
    repeat' (first | refine zt ?_ | (refine isR ?_; first | refine zo ?_ | refine zM ?_) | refine awp_split rfl (fun hb => ?_) (fun hb => ?_) | refine x_mret [0] ?_ ?_ | refine x_mnor [0] ?_ ?_ | refine zr ?_ | exact x_le)
    · rfl
    · exact .on (.map (map_nl fun _ => rfl)) .nil
  · rw [decide_eq_true h1]
    repeat' (first | refine zt ?_ | (refine isR ?_; first | refine zo ?_ | refine zM ?_) | refine awp_split rfl (fun hb => ?_) (fun hb => ?_) | refine x_mret [0] ?_ ?_ | refine x_mnor [0] ?_ ?_ | refine zr ?_ | exact x_le)
    · rfl
    · exact .on (.map (map_nl fun _ => rfl)) .nil
theorem fro_lim {xs r : List Abs.V} (h : V.LimL (.fro xs :: r)) : xs.length ≤ 140737488355328 ∧ V.LimL r := ⟨h.1.1, h.2⟩
set_option maxRecDepth 100000 in
set_option maxHeartbeats 4000000 in
theorem index_v {L : List Suffix} {a : Suffix} : ACalls Tryz.prog 106 [sufT L, a.v] (.int .i64 (firstI (fun r => decide (a = r)) L)) := ACalls.lim fun hl => by
  have hlim := (fro_lim hl).1
  have hx : ((L.map Suffix.v).length : Int) = (L.length : Int) := by simp
  refine fun2 tb_ok Tryz.func106 rfl Tryz.ntmps106 Tryz.results106 rfl fun N => ?_
  repeat' (first | refine zt ?_ | (refine isR ?_; first | refine zo ?_ | refine zA ?_ | refine zL ?_ | refine zc1 ?_ | refine zc5 ?_ | refine zI ?_ | (refine zs1 ?_ ?_ <;> intro hc) | (refine zs5 ?_ ?_ <;> intro hc)) | refine awp_split rfl (fun hb => ?_) (fun hb => ?_) | refine zr ?_ | exact x_le)
  refine awp_for (fun k => ⟨[(0, sufT L), (3, .fp a.v.cells 0), (7, .int .i64 (L.map Suffix.v).length), (8, .int .i64 (k : Int))], [], 0, 19⟩) (fun k => k ≤ L.length ∧ Upto (fun r => !decide (a = r)) L k) L.length 0 (by exact x_le) ⟨Nat.zero_le _, upto0⟩ ?_
  intro k ⟨hk, hq⟩
  by_cases hk2 : k < L.length
  · have e1 : (L.map Suffix.v)[k]? = some (L[k]).v := by simp [hk2]
    have e2 : L[k]? = some L[k] := by simp [hk2]
    generalize L[k] = b at e1 e2
    have he := eq_suf a b
    by_cases hab : a = b
    · rw [decide_eq_true hab] at he
      repeat' (first | refine zt ?_ | (refine isR ?_; first | refine zo ?_ | refine zA ?_ | refine zL ?_ | refine zc1 ?_ | refine zc5 ?_ | refine zI ?_ | (refine zs1 ?_ ?_ <;> intro hc) | (refine zs5 ?_ ?_ <;> intro hc)) | refine awp_split rfl (fun hb => ?_) (fun hb => ?_) | refine zr ?_ | exact x_le)
      rw [firstI_at (fun j y hj hy => by have := hq j y hj hy; simpa using this) e2 (by simpa using hab)]
      rfl
    · rw [decide_eq_false hab] at he
      repeat' (first | refine zt ?_ | (refine isR ?_; first | refine zo ?_ | refine zA ?_ | refine zL ?_ | refine zc1 ?_ | refine zc5 ?_ | refine zI ?_ | (refine zs1 ?_ ?_ <;> intro hc) | (refine zs5 ?_ ?_ <;> intro hc)) | refine awp_split rfl (fun hb => ?_) (fun hb => ?_) | refine zr ?_ | exact x_le)
      exact ⟨⟨by omega, hq.on e2 (by simpa using hab)⟩, hk2, (by exact x_le)⟩
  · skip
    repeat' (first | refine zt ?_ | (refine isR ?_; first | refine zo ?_ | refine zA ?_ | refine zL ?_ | refine zc1 ?_ | refine zc5 ?_ | refine zI ?_ | (refine zs1 ?_ ?_ <;> intro hc) | (refine zs5 ?_ ?_ <;> intro hc)) | refine awp_split rfl (fun hb => ?_) (fun hb => ?_) | refine zr ?_ | exact x_le)
    rw [firstI_none (fun x hx => by have := List.all_eq_true.1 (hq.all hk2) x hx; simpa using this)]
    rfl
set_option maxRecDepth 100000 in
set_option maxHeartbeats 4000000 in
theorem contains_v {L : List Suffix} {a : Suffix} : ACalls Tryz.prog 73 [sufT L, a.v] (.bool (decide (a ∈ L))) := by
  have c1 := index_v (L := L) (a := a)
  have hg := firstI_ge (p := fun r => decide (a = r)) (l := L)
  have hm : L.any (fun r => decide (a = r)) = decide (a ∈ L) := by
    rw [Bool.eq_iff_iff, List.any_eq_true, decide_eq_true_eq]
    exact ⟨fun ⟨x, h1, h2⟩ => by have := of_decide_eq_true h2; subst this; exact h1, fun h => ⟨a, h, by simp⟩⟩
  rw [hm] at hg
  generalize firstI (fun r => decide (a = r)) L = n at *
  generalize decide (a ∈ L) = x at *
  refine fun2 tb_ok Tryz.func73 rfl Tryz.ntmps73 Tryz.results73 rfl fun N => ?_
  by_cases h0 : 0 ≤ n
  · skip
    repeat' (first | refine zt ?_ | (refine isR ?_; first | refine zo ?_ | refine zk c1 ?_ | refine zc4 ?_ | (refine zs4 ?_ ?_ <;> intro hc)) | refine awp_split rfl (fun hb => ?_) (fun hb => ?_) | refine zr ?_ | exact x_le)
    rw [hg.1 h0]; rfl
  · have : x = false := by
      cases x with
      | true => exact absurd (hg.2 rfl) h0
      | false => rfl
    repeat' (first | refine zt ?_ | (refine isR ?_; first | refine zo ?_ | refine zk c1 ?_ | refine zc4 ?_ | (refine zs4 ?_ ?_ <;> intro hc)) | refine awp_split rfl (fun hb => ?_) (fun hb => ?_) | refine zr ?_ | exact x_le)
    rw [this]; rfl
theorem checkG_step {L : List Suffix} {k : Nat} {r : Suffix} (h : L[k]? = some r) : checkG (L.take k) (L.drop k) = if bad1 r ≠ 0 then bad1 r else if r ∈ L.take k then 6 else checkG (L.take (k + 1)) (L.drop (k + 1)) := by
  obtain ⟨hk, rfl⟩ := List.getElem?_eq_some_iff.1 h
  rw [List.drop_eq_getElem_cons hk, checkG, List.take_succ_eq_append_getElem hk]
theorem bad_kind {r : Suffix} (h : r.kind < 1 ∨ 3 < r.kind) : bad1 r = 7 := by unfold bad1; rw [if_pos h]
theorem bad_form {r : Suffix} (h : ¬ (r.kind < 1 ∨ 3 < r.kind)) (h2 : hostOk r.name = false ∨ address r.name = true ∨ (r.kind = 3 ∧ up r.name = [])) : bad1 r = 1 := by unfold bad1; rw [if_neg h, if_pos h2]
theorem bad_no {r : Suffix} (h : ¬ (r.kind < 1 ∨ 3 < r.kind)) (h2 : ¬ (hostOk r.name = false ∨ address r.name = true ∨ (r.kind = 3 ∧ up r.name = []))) : bad1 r = 0 := by unfold bad1; rw [if_neg h, if_neg h2]
theorem code_bad {L : List Suffix} {k n : Nat} {r : Suffix} (h : L[k]? = some r) (hc : checkG (L.take k) (L.drop k) = checkF L) (hb : bad1 r = n) (hn : n ≠ 0) : checkF L = n := by
  rw [← hc, checkG_step h, hb, if_pos hn]
theorem code_twice {L : List Suffix} {k : Nat} {r : Suffix} (h : L[k]? = some r) (hc : checkG (L.take k) (L.drop k) = checkF L) (hb : bad1 r = 0) (hm : r ∈ L.take k) : checkF L = 6 := by
  rw [← hc, checkG_step h, hb, if_neg (by simp), if_pos hm]
theorem code_on {L : List Suffix} {k : Nat} {r : Suffix} (h : L[k]? = some r) (hc : checkG (L.take k) (L.drop k) = checkF L) (hb : bad1 r = 0) (hm : r ∉ L.take k) : checkG (L.take (k + 1)) (L.drop (k + 1)) = checkF L := by
  rw [← hc, checkG_step h, hb, if_neg (by simp), if_neg hm]
theorem code_end {L : List Suffix} {k : Nat} (hk : ¬ k < L.length) (hc : checkG (L.take k) (L.drop k) = checkF L) : checkF L = 0 := by
  rw [← hc, List.drop_eq_nil_of_le (by omega)]; rfl
set_option maxRecDepth 100000 in
set_option maxHeartbeats 4000000 in
theorem check_v {L : List Suffix} : ACallsG Tryz.prog gStr 35 [sufT L] (.int .i64 (checkF L : Nat)) := by
  have hx : ((L.map Suffix.v).length : Int) = (L.length : Int) := by simp
  refine funG1 tb_ok Tryz.func35 rfl Tryz.ntmps35 Tryz.results35 rfl fun N => ?_
  by_cases h16 : 16 < L.length
  · skip
    repeat' (first | refine zt ?_ | (refine isR ?_; first | refine zo ?_ | refine zA ?_ | refine zL ?_ | refine zc1 ?_ | refine zc3 ?_ | refine zc5 ?_ | refine zI ?_ | refine zS ?_ | (refine zs1 ?_ ?_ <;> intro hc) | (refine zs3 ?_ ?_ <;> intro hc) | (refine zs5 ?_ ?_ <;> intro hc)) | refine awp_split rfl (fun hb => ?_) (fun hb => ?_) | refine zr ?_ | exact x_le)
    have : checkF L = 2 := by unfold checkF; rw [if_pos h16]
    rw [this]; rfl
  · have h0 : checkG (L.take 0) (L.drop 0) = checkF L := by unfold checkF; rw [if_neg h16]; rfl
    repeat' (first | refine zt ?_ | (refine isR ?_; first | refine zo ?_ | refine zA ?_ | refine zL ?_ | refine zc1 ?_ | refine zc3 ?_ | refine zc5 ?_ | refine zI ?_ | refine zS ?_ | (refine zs1 ?_ ?_ <;> intro hc) | (refine zs3 ?_ ?_ <;> intro hc) | (refine zs5 ?_ ?_ <;> intro hc)) | refine awp_split rfl (fun hb => ?_) (fun hb => ?_) | refine zr ?_ | exact x_le)
    refine awp_for (fun k => ⟨[(0, sufT L), (8, sufT L), (9, .int .i64 (L.map Suffix.v).length), (10, .int .i64 (k : Int))], [], 0, 48⟩) (fun k => k ≤ L.length ∧ checkG (L.take k) (L.drop k) = checkF L) L.length 0 (by exact x_le) ⟨Nat.zero_le _, h0⟩ ?_
    intro k ⟨hk, hcc⟩
    by_cases hk2 : k < L.length
    · have e1 : (L.map Suffix.v)[k]? = some (L[k]).v := by simp [hk2]
      have e2 : L[k]? = some L[k] := by simp [hk2]
      generalize L[k] = r at e1 e2
      by_cases h7 : r.kind < 1 ∨ 3 < r.kind
      · rcases h7 with h7 | h7
        · skip
          repeat' (first | refine zt ?_ | (refine isR ?_; first | refine zo ?_ | refine zA ?_ | refine zL ?_ | refine zc1 ?_ | refine zc3 ?_ | refine zc5 ?_ | refine zI ?_ | refine zS ?_ | (refine zs1 ?_ ?_ <;> intro hc) | (refine zs3 ?_ ?_ <;> intro hc) | (refine zs5 ?_ ?_ <;> intro hc)) | refine awp_split rfl (fun hb => ?_) (fun hb => ?_) | refine zr ?_ | exact x_le)
          rw [code_bad e2 hcc (bad_kind (.inl h7)) (by decide)]; rfl
        · skip
          repeat' (first | refine zt ?_ | (refine isR ?_; first | refine zo ?_ | refine zA ?_ | refine zL ?_ | refine zc1 ?_ | refine zc3 ?_ | refine zc5 ?_ | refine zI ?_ | refine zS ?_ | (refine zs1 ?_ ?_ <;> intro hc) | (refine zs3 ?_ ?_ <;> intro hc) | (refine zs5 ?_ ?_ <;> intro hc)) | refine awp_split rfl (fun hb => ?_) (fun hb => ?_) | refine zr ?_ | exact x_le)
          rw [code_bad e2 hcc (bad_kind (.inr h7)) (by decide)]; rfl
      · have c1 := host_v (l := r.name)
        have c2 := address_v (l := r.name)
        have c3 := above_v (l := r.name)
        have c4 := contains_v (L := L.take k) (a := r)
        by_cases hh : hostOk r.name = true
        · rw [hh] at c1
          have c2 := c2 (by have := ((host_iff _).1 hh).len; omega)
          by_cases ha : address r.name = true
          · rw [ha] at c2
            repeat' (first | refine zt ?_ | (refine isR ?_; first | refine zo ?_ | refine zk c1 ?_ | refine zk c2 ?_ | refine zA ?_ | refine zL ?_ | refine zc1 ?_ | refine zc3 ?_ | refine zc5 ?_ | refine zI ?_ | refine zS ?_ | (refine zs1 ?_ ?_ <;> intro hc) | (refine zs3 ?_ ?_ <;> intro hc) | (refine zs5 ?_ ?_ <;> intro hc)) | refine awp_split rfl (fun hb => ?_) (fun hb => ?_) | refine zr ?_ | exact x_le)
            rw [code_bad e2 hcc (bad_form h7 (.inr (.inl ha))) (by decide)]; rfl
          · simp only [Bool.not_eq_true] at ha
            rw [ha] at c2
            by_cases h3 : r.kind = 3 ∧ up r.name = []
            · rw [h3.2] at c3
              have h3' := h3.1
              repeat' (first | refine zt ?_ | (refine isR ?_; first | refine zo ?_ | refine zk c1 ?_ | refine zk c2 ?_ | refine zk c3 ?_ | refine zA ?_ | refine zL ?_ | refine zc1 ?_ | refine zc3 ?_ | refine zc5 ?_ | refine zI ?_ | refine zS ?_ | (refine zs1 ?_ ?_ <;> intro hc) | (refine zs3 ?_ ?_ <;> intro hc) | (refine zs5 ?_ ?_ <;> intro hc)) | refine awp_split rfl (fun hb => ?_) (fun hb => ?_) | refine zr ?_ | exact x_le)
              rw [code_bad e2 hcc (bad_form h7 (.inr (.inr h3))) (by decide)]; rfl
            · have hb : bad1 r = 0 := bad_no h7 (by rw [hh, ha]; simpa using h3)
              by_cases hm : r ∈ L.take k
              · rw [decide_eq_true hm] at c4
                repeat' (first | refine zt ?_ | (refine isR ?_; first | refine zo ?_ | refine zk c1 ?_ | refine zk c2 ?_ | refine zk c3 ?_ | refine zk c4 ?_ | refine zA ?_ | refine zL ?_ | refine zc1 ?_ | refine zc3 ?_ | refine zc5 ?_ | refine zI ?_ | refine zS ?_ | (refine zs1 ?_ ?_ <;> intro hc) | (refine zs3 ?_ ?_ <;> intro hc) | (refine zs5 ?_ ?_ <;> intro hc)) | refine awp_split rfl (fun hb => ?_) (fun hb => ?_) | refine zr ?_ | exact x_le)
                all_goals first
                  | (exact absurd ⟨by assumption, by assumption⟩ h3)
                  | (rw [code_twice e2 hcc hb hm]; rfl)
              · rw [decide_eq_false hm] at c4
                repeat' (first | refine zt ?_ | (refine isR ?_; first | refine zo ?_ | refine zk c1 ?_ | refine zk c2 ?_ | refine zk c3 ?_ | refine zk c4 ?_ | refine zA ?_ | refine zL ?_ | refine zc1 ?_ | refine zc3 ?_ | refine zc5 ?_ | refine zI ?_ | refine zS ?_ | (refine zs1 ?_ ?_ <;> intro hc) | (refine zs3 ?_ ?_ <;> intro hc) | (refine zs5 ?_ ?_ <;> intro hc)) | refine awp_split rfl (fun hb => ?_) (fun hb => ?_) | refine zr ?_ | exact x_le)
                all_goals first
                  | (exact absurd ⟨by assumption, by assumption⟩ h3)
                  | exact ⟨⟨by omega, code_on e2 hcc hb hm⟩, hk2, (by exact x_le)⟩
        · simp only [Bool.not_eq_true] at hh
          rw [hh] at c1
          repeat' (first | refine zt ?_ | (refine isR ?_; first | refine zo ?_ | refine zk c1 ?_ | refine zA ?_ | refine zL ?_ | refine zc1 ?_ | refine zc3 ?_ | refine zc5 ?_ | refine zI ?_ | refine zS ?_ | (refine zs1 ?_ ?_ <;> intro hc) | (refine zs3 ?_ ?_ <;> intro hc) | (refine zs5 ?_ ?_ <;> intro hc)) | refine awp_split rfl (fun hb => ?_) (fun hb => ?_) | refine zr ?_ | exact x_le)
          rw [code_bad e2 hcc (bad_form h7 (.inl hh)) (by decide)]; rfl
    · skip
      repeat' (first | refine zt ?_ | (refine isR ?_; first | refine zo ?_ | refine zA ?_ | refine zL ?_ | refine zc1 ?_ | refine zc3 ?_ | refine zc5 ?_ | refine zI ?_ | refine zS ?_ | (refine zs1 ?_ ?_ <;> intro hc) | (refine zs3 ?_ ?_ <;> intro hc) | (refine zs5 ?_ ?_ <;> intro hc)) | refine awp_split rfl (fun hb => ?_) (fun hb => ?_) | refine zr ?_ | exact x_le)
      rw [code_end hk2 hcc]; rfl
end Go.Proofs.YtpffdbplcgmilaaGreatDoor.SufW
end

section
namespace Go.Proofs.YtpffdbplcgmilaaGreatDoor.GovA
open Go.RowKit Mem Abs Globs HostP HostC PathT Rdy Scan JarP JarQ JarA JarB JarC JarE JarL JarM PolP PolA PolB PurA RjP GovP LineB LineA
open ConC (conI intsV)

abbrev stC (S : List Suffix) (L : List Cookie) (nx : Int) (p : Pol) (g : Int) (P : Nat → Bool) (U : List Int) (t : Int) : List Abs.V := [.fro (S.map Suffix.v), .fro (L.map Cookie.v), .int .i64 nx, .fro (p.rules.map Rule.v), .int .i64 p.dflt, .int .i64 (p.caps 0), .int .i64 (p.caps 1), .int .i64 (p.caps 2), .int .i64 (p.caps 3), .int .i64 (p.caps 4), .int .i64 (p.caps 5), .int .i64 (p.caps 6), .int .i64 (p.caps 7), .int .i64 (p.caps 8), .int .i64 (p.caps 9), .int .i64 (p.caps 10), .int .i64 g, .bool (P 0), .bool (P 1), .bool (P 2), .bool (P 3), .bool (P 4), .bool (P 5), .bool (P 6), .bool (P 7), .bool (P 8), .bool (P 9), intsV U, .int .i64 t]
abbrev stV (S : List Suffix) (L : List Cookie) (nx : Int) (p : Pol) (g : Int) (P : Nat → Bool) (U : List Int) (t : Int) : Abs.V := .agg (stC S L nx p g P U t)
theorem fro_len {α : Type} {f : α → Abs.V} {L : List α} : Abs.V.fro (List.take L.length (List.drop 0 (L.map f))) = .fro (L.map f) := by rw [List.drop_zero, List.take_of_length_le (by simp)]
theorem one_row {α : Type} {f : α → Abs.V} {F T sz : Nat} {L : List α} (hf : ∀ a, (f a).names = []) (h : MCalls Tryz.prog F [.fro (L.map f)] [] (.own 0 0 L.length) [some (.els T sz (L.map f))]) : ACalls Tryz.prog F [.fro (L.map f)] (.fro (L.map f)) := fun g => by
  refine mcallsG_frz (bs := [.els T sz (L.map f)]) (h g) ?_ ⟨frz_row hf, by simp⟩
  show some (Abs.V.fro (List.take L.length (List.drop 0 (L.map f)))) = _
  rw [fro_len]
set_option maxRecDepth 100000 in
set_option maxHeartbeats 4000000 in
theorem cloneC_v {L : List Cookie} (hb : L.length * 112 ≤ 140737488355328) : ACalls Tryz.prog 57 [.fro (L.map Cookie.v)] (.fro (L.map Cookie.v)) := one_row (fun _ => rfl) (clone_v hb)
set_option maxRecDepth 100000 in
set_option maxHeartbeats 4000000 in
theorem cloneS_m {L : List Suffix} (hb : L.length ≤ 1000) : MCalls Tryz.prog 83 [.fro (L.map Suffix.v)] [] (.own 0 0 L.length) [some (.els 136 2 (L.map Suffix.v))] := by
  refine mfun tb_ok Tryz.func83 rfl Tryz.ntmps83 Tryz.results83 rfl rfl rfl rfl fun N pl => ?_
  repeat' (first | refine awp_nilq tb_ok (fun b hq => ?_) | (with_reducible refine awp_name (c := Code.ret) (t := 2) 136 2 (by decide) rfl rfl ?_) | refine x_mret [1] ?_ ?_ | refine zt ?_ | (refine isR ?_; first | refine x_far [5] tb_ok rfl ?_ | refine zn ?_ | refine x_appK Suffix.v (L := []) (K' := L) tb_ok ?_ | refine x_bsO 5 tb_ok ?_ | refine x_bs tb_ok ?_ | refine zc5 ?_ | (refine zs5 ?_ ?_ <;> intro hc)) | refine awp_split rfl (fun hb => ?_) (fun hb => ?_) | refine x_mret [0] ?_ ?_ | refine x_mnor [0] ?_ ?_ | refine zr ?_ | exact x_le)
  all_goals first
    | (have hn := hq hb; simp only [List.map_eq_nil_iff] at hn; subst hn; first | rfl | exact .on (.same rfl) .nil)
    | rfl
    | exact .on (.same (nl_map fun _ => rfl)) .nil
set_option maxRecDepth 100000 in
set_option maxHeartbeats 4000000 in
theorem cloneR_m {L : List Rule} (hb : L.length ≤ 1000) : MCalls Tryz.prog 84 [.fro (L.map Rule.v)] [] (.own 0 0 L.length) [some (.els 126 4 (L.map Rule.v))] := by
  refine mfun tb_ok Tryz.func84 rfl Tryz.ntmps84 Tryz.results84 rfl rfl rfl rfl fun N pl => ?_
  repeat' (first | refine awp_nilq tb_ok (fun b hq => ?_) | (with_reducible refine awp_name (c := Code.ret) (t := 2) 126 4 (by decide) rfl rfl ?_) | refine x_mret [1] ?_ ?_ | refine zt ?_ | (refine isR ?_; first | refine x_far [5] tb_ok rfl ?_ | refine zn ?_ | refine x_appK Rule.v (L := []) (K' := L) tb_ok ?_ | refine x_bsO 5 tb_ok ?_ | refine x_bs tb_ok ?_ | refine zc5 ?_ | (refine zs5 ?_ ?_ <;> intro hc)) | refine awp_split rfl (fun hb => ?_) (fun hb => ?_) | refine x_mret [0] ?_ ?_ | refine x_mnor [0] ?_ ?_ | refine zr ?_ | exact x_le)
  all_goals first
    | (have hn := hq hb; simp only [List.map_eq_nil_iff] at hn; subst hn; first | rfl | exact .on (.same rfl) .nil)
    | rfl
    | exact .on (.same (nl_map fun _ => rfl)) .nil
set_option maxRecDepth 100000 in
set_option maxHeartbeats 4000000 in
theorem cloneI_m {L : List Int} (hb : L.length ≤ 1000) : MCalls Tryz.prog 85 [.fro (L.map (Abs.V.int .i64))] [] (.own 0 0 L.length) [some (.els 3 1 (L.map (Abs.V.int .i64)))] := by
  refine mfun tb_ok Tryz.func85 rfl Tryz.ntmps85 Tryz.results85 rfl rfl rfl rfl fun N pl => ?_
  repeat' (first | refine awp_nilq tb_ok (fun b hq => ?_) | (with_reducible refine awp_name (c := Code.ret) (t := 2) 3 1 (by decide) rfl rfl ?_) | refine x_mret [1] ?_ ?_ | refine zt ?_ | (refine isR ?_; first | refine x_far [5] tb_ok rfl ?_ | refine zn ?_ | refine x_appK (Abs.V.int .i64) (L := []) (K' := L) tb_ok ?_ | refine x_bsO 5 tb_ok ?_ | refine x_bs tb_ok ?_ | refine zc5 ?_ | (refine zs5 ?_ ?_ <;> intro hc)) | refine awp_split rfl (fun hb => ?_) (fun hb => ?_) | refine x_mret [0] ?_ ?_ | refine x_mnor [0] ?_ ?_ | refine zr ?_ | exact x_le)
  all_goals first
    | (have hn := hq hb; simp only [List.map_eq_nil_iff] at hn; subst hn; first | rfl | exact .on (.same rfl) .nil)
    | rfl
    | exact .on (.same (nl_map fun _ => rfl)) .nil
set_option maxRecDepth 100000 in
set_option maxHeartbeats 4000000 in
theorem own_v {S : List Suffix} {L : List Cookie} {nx : Int} {p : Pol} {g : Int} {P : Nat → Bool} {U : List Int} {t : Int} (h1 : S.length ≤ 1000) (h2 : L.length ≤ 1000) (h3 : p.rules.length ≤ 1000) (h4 : U.length ≤ 1000) : ACalls Tryz.prog 45 [stV S L nx p g P U t] (stV S L nx p g P U t) := by
  have c1 := one_row (fun _ => rfl) (cloneS_m h1)
  have c2 := cloneC_v (L := L) (by omega)
  have c3 := one_row (fun _ => rfl) (cloneR_m h3)
  have c4 := one_row (fun _ => rfl) (cloneI_m h4)
  refine fun1 tb_ok Tryz.func45 rfl Tryz.ntmps45 Tryz.results45 rfl fun N => ?_
  repeat' (first | refine zt ?_ | (refine isR ?_; first | refine x_far [1] tb_ok rfl ?_ | refine zn ?_ | refine zk c1 ?_ | refine zk c2 ?_ | refine zk c3 ?_ | refine zk c4 ?_) | refine awp_split rfl (fun hb => ?_) (fun hb => ?_) | refine zr ?_ | exact x_le)
  all_goals rfl
set_option maxRecDepth 100000 in
set_option maxHeartbeats 4000000 in
theorem equal_v {L K : List Cookie} (hL : L.length ≤ 1000) : ACalls Tryz.prog 42 [.fro (L.map Cookie.v), .fro (K.map Cookie.v)] (.bool (decide (L = K))) := by
  have hml : (L.map Cookie.v).length = L.length := List.length_map _
  have hmk : (K.map Cookie.v).length = K.length := List.length_map _
  by_cases h0 : L.length = K.length
  · generalize hR : decide (L = K) = R
    refine fun2 tb_ok Tryz.func42 rfl Tryz.ntmps42 Tryz.results42 rfl fun N => ?_
    repeat' (first | refine zt ?_ | (refine isR ?_; first | refine zo ?_ | refine zA ?_ | refine zL ?_ | refine zc1 ?_ | refine zc6 ?_ | refine zI ?_ | (refine zs1 ?_ ?_ <;> intro hc) | (refine zs6 ?_ ?_ <;> intro hc)) | refine awp_split rfl (fun hb => ?_) (fun hb => ?_) | refine zr ?_ | exact x_le)
    all_goals first | (exfalso; omega) | skip
    refine awp_for (fun k => ⟨[(0, .fro (L.map Cookie.v)), (1, .fro (K.map Cookie.v)), (12, nV L.length), (13, nV k)], [], 0, 26⟩) (fun k => k ≤ L.length ∧ ∀ j, j < k → L[j]? = K[j]?) L.length 0 (by exact x_le) ⟨Nat.zero_le _, fun j h => by omega⟩ ?_
    rintro k ⟨hk, hd⟩
    by_cases hk2 : k < L.length
    · have hx : L[k]? = some L[k] := by simp [hk2]
      have hy : K[k]? = some (K[k]'(by omega)) := by simp [show k < K.length by omega]
      have hno : L[k] ≠ K[k]'(by omega) → R = false := fun h => by
        rw [← hR, decide_eq_false]
        rintro rfl
        exact h rfl
      generalize L[k] = a at *
      generalize K[k]'(by omega) = b at *
      have hm := at_map (f := Cookie.v) hx
      have hm2 := at_map (f := Cookie.v) hy
      have he := eq_cookie a b
      by_cases e : a = b
      · rw [decide_eq_true e] at he
        repeat' (first | refine zt ?_ | (refine isR ?_; first | refine zo ?_ | refine zA ?_ | refine zL ?_ | refine zc1 ?_ | refine zc6 ?_ | refine zI ?_ | (refine zs1 ?_ ?_ <;> intro hc) | (refine zs6 ?_ ?_ <;> intro hc)) | refine awp_split rfl (fun hb => ?_) (fun hb => ?_) | refine zr ?_ | exact x_le)
        all_goals first | (exfalso; exact absurd ((congrArg not he).symm.trans hb) (by decide)) | skip
        refine ⟨⟨by omega, fun j hj => ?_⟩, hk2, (by exact x_le)⟩
        by_cases ej : j = k
        · subst ej; rw [hx, hy, e]
        · exact hd j (by omega)
      · rw [decide_eq_false e] at he
        rw [hno e]
        repeat' (first | refine zt ?_ | (refine isR ?_; first | refine zo ?_ | refine zA ?_ | refine zL ?_ | refine zc1 ?_ | refine zc6 ?_ | refine zI ?_ | (refine zs1 ?_ ?_ <;> intro hc) | (refine zs6 ?_ ?_ <;> intro hc)) | refine awp_split rfl (fun hb => ?_) (fun hb => ?_) | refine zr ?_ | exact x_le)
        all_goals first | rfl | (exfalso; exact absurd ((congrArg not he).symm.trans hb) (by decide))
    · obtain rfl : k = L.length := by omega
      have : R = true := by
        rw [← hR, decide_eq_true_iff]
        apply List.ext_getElem?
        intro i
        by_cases hi : i < L.length
        · exact hd i hi
        · rw [List.getElem?_eq_none (by omega), List.getElem?_eq_none (by omega)]
      subst this
      repeat' (first | refine zt ?_ | (refine isR ?_; first | refine zo ?_ | refine zA ?_ | refine zL ?_ | refine zc1 ?_ | refine zc6 ?_ | refine zI ?_ | (refine zs1 ?_ ?_ <;> intro hc) | (refine zs6 ?_ ?_ <;> intro hc)) | refine awp_split rfl (fun hb => ?_) (fun hb => ?_) | refine zr ?_ | exact x_le)
      all_goals rfl
  · have : decide (L = K) = false := decide_eq_false (fun e => h0 (by rw [e]))
    rw [this]
    refine fun2 tb_ok Tryz.func42 rfl Tryz.ntmps42 Tryz.results42 rfl fun N => ?_
    repeat' (first | refine zt ?_ | (refine isR ?_; first | refine zo ?_ | refine zA ?_ | refine zL ?_ | refine zc1 ?_ | refine zc6 ?_ | refine zI ?_ | (refine zs1 ?_ ?_ <;> intro hc) | (refine zs6 ?_ ?_ <;> intro hc)) | refine awp_split rfl (fun hb => ?_) (fun hb => ?_) | refine zr ?_ | exact x_le)
    all_goals first | rfl | (exfalso; omega)
theorem raw_v {p : Pol} {g : Int} {P : Nat → Bool} {U : List Int} {now nx : Int} {L : List Cookie} (h : OkP p) (hL : L.length ≤ 12) (hd : ∀ c ∈ L, c.domain.length ≤ 4398046511104) (hc : ∀ c ∈ L, isJ c.created = true) : ACallsG Tryz.prog gStr 77 [jarV L nx, polV p, conI g P U, .int .i64 now] (jarV (keptF p P U now L) nx) := by
  refine mcallsG_frz (bs := [rC (keptF p P U now L)]) (raw_m h hL hd hc) ?_ ?_
  · show some (Abs.V.agg [.fro (List.take (keptF p P U now L).length (List.drop 0 ((keptF p P U now L).map Cookie.v))), .int .i64 nx]) = _
    rw [fro_len]
  · repeat' first | exact trivial | exact rfl | (simp; done) | exact frz_map (fun _ => rfl) | constructor
set_option maxRecDepth 100000 in
set_option maxHeartbeats 4000000 in
theorem purged_v {S : List Suffix} {L : List Cookie} {nx : Int} {p : Pol} {g : Int} {P : Nat → Bool} {U : List Int} {t : Int} (h : OkP p) (hL : L.length ≤ 12) (hd : ∀ c ∈ L, c.domain.length ≤ 4398046511104) (hc : ∀ c ∈ L, isJ c.created = true) : ACallsG Tryz.prog gStr 43 [stV S L nx p g P U t] (jarV (keptF p P U t L) nx) := by
  have c1 := raw_v (g := g) (P := P) (U := U) (now := t) (nx := nx) h hL hd hc
  generalize keptF p P U t L = K at *
  refine funG1 tb_ok Tryz.func43 rfl Tryz.ntmps43 Tryz.results43 rfl fun N => ?_
  repeat' (first | refine zt ?_ | (refine isR ?_; first | refine zo ?_ | refine zk c1 ?_) | refine awp_split rfl (fun hb => ?_) (fun hb => ?_) | refine zr ?_ | exact x_le)
  all_goals rfl
set_option maxRecDepth 100000 in
set_option maxHeartbeats 4000000 in
theorem chk1_v {S : List Suffix} {L : List Cookie} {nx : Int} {p : Pol} {g : Int} {P : Nat → Bool} {U : List Int} {t : Int} : ACallsG Tryz.prog gStr 34 [.fp (stC S L nx p g P U t) 0] (.int .i64 (SufP.checkF S : Nat)) := by
  have c1 := SufW.check_v (L := S)
  generalize SufP.checkF S = z at *
  refine funG1 tb_ok Tryz.func34 rfl Tryz.ntmps34 Tryz.results34 rfl fun N => ?_
  repeat' (first | refine zt ?_ | (refine isR ?_; first | refine zo ?_ | refine zk c1 ?_) | refine awp_split rfl (fun hb => ?_) (fun hb => ?_) | refine zr ?_ | exact x_le)
  all_goals rfl
set_option maxRecDepth 100000 in
set_option maxHeartbeats 4000000 in
theorem chk2_v {S : List Suffix} {L : List Cookie} {nx : Int} {p : Pol} {g : Int} {P : Nat → Bool} {U : List Int} {t : Int} : ACalls Tryz.prog 36 [.fp (stC S L nx p g P U t) 0] (.int .i64 (checkJ L nx : Nat)) := by
  have c1 := jcheck_v (L := L) (nx := nx)
  generalize checkJ L nx = z at *
  refine fun1 tb_ok Tryz.func36 rfl Tryz.ntmps36 Tryz.results36 rfl fun N => ?_
  repeat' (first | refine zt ?_ | (refine isR ?_; first | refine zo ?_ | refine zk c1 ?_) | refine awp_split rfl (fun hb => ?_) (fun hb => ?_) | refine zr ?_ | exact x_le)
  all_goals rfl
set_option maxRecDepth 100000 in
set_option maxHeartbeats 4000000 in
theorem chk3_v {S : List Suffix} {L : List Cookie} {nx : Int} {p : Pol} {g : Int} {P : Nat → Bool} {U : List Int} {t : Int} : ACalls Tryz.prog 37 [.fp (stC S L nx p g P U t) 0] (.int .i64 (checkP p : Nat)) := by
  have c1 := pcheck_v (p := p)
  generalize checkP p = z at *
  refine fun1 tb_ok Tryz.func37 rfl Tryz.ntmps37 Tryz.results37 rfl fun N => ?_
  repeat' (first | refine zt ?_ | (refine isR ?_; first | refine zo ?_ | refine zk c1 ?_) | refine awp_split rfl (fun hb => ?_) (fun hb => ?_) | refine zr ?_ | exact x_le)
  all_goals rfl
set_option maxRecDepth 100000 in
set_option maxHeartbeats 4000000 in
theorem chk4_v {S : List Suffix} {L : List Cookie} {nx : Int} {p : Pol} {g : Int} {P : Nat → Bool} {U : List Int} {t : Int} : ACalls Tryz.prog 39 [.fp (stC S L nx p g P U t) 0] (.int .i64 (GrantP.check g U : Nat)) := by
  have c1 := ConC.check_v (g := g) (P := P) (L := U)
  generalize GrantP.check g U = z at *
  refine fun1 tb_ok Tryz.func39 rfl Tryz.ntmps39 Tryz.results39 rfl fun N => ?_
  repeat' (first | refine zt ?_ | (refine isR ?_; first | refine zo ?_ | refine zk c1 ?_) | refine awp_split rfl (fun hb => ?_) (fun hb => ?_) | refine zr ?_ | exact x_le)
  all_goals rfl
theorem mom_of {L : List Cookie} {nx : Int} (h : Rj L nx) : ∀ c ∈ L, isJ c.created = true := fun c hc => by
  have := h.mom c hc
  unfold badM at this
  cases hq : isJ c.created with
  | true => rfl
  | false => rw [hq] at this; cases this
set_option maxRecDepth 100000 in
set_option maxHeartbeats 4000000 in
theorem gcheck_v {S : List Suffix} {L : List Cookie} {nx : Int} {p : Pol} {g : Int} {P : Nat → Bool} {U : List Int} {t : Int} (hd : ∀ c ∈ L, c.domain.length ≤ 4398046511104) : ACallsG Tryz.prog gStr 13 [stV S L nx p g P U t] (.int .i64 ((codeS S L nx p g P U t : Nat) : Int)) := by
  have c1 := chk1_v (S := S) (L := L) (nx := nx) (p := p) (g := g) (P := P) (U := U) (t := t)
  have c2 := chk2_v (S := S) (L := L) (nx := nx) (p := p) (g := g) (P := P) (U := U) (t := t)
  have c3 := chk3_v (S := S) (L := L) (nx := nx) (p := p) (g := g) (P := P) (U := U) (t := t)
  have c4 := chk4_v (S := S) (L := L) (nx := nx) (p := p) (g := g) (P := P) (U := U) (t := t)
  have c5 := is_v (n := t)
  unfold codeS
  by_cases h1 : SufP.checkF S = 0
  · rw [if_neg (by rw [h1]; simp)]
    rw [h1] at c1
    by_cases h2 : checkJ L nx = 0
    · rw [if_neg (by rw [h2]; simp)]
      rw [h2] at c2
      by_cases h3 : checkP p = 0
      · rw [if_neg (by rw [h3]; simp)]
        rw [h3] at c3
        by_cases h4 : GrantP.check g U = 0
        · rw [if_neg (by rw [h4]; simp)]
          rw [h4] at c4
          by_cases h5 : isJ t = false
          · rw [if_pos h5]
            rw [h5] at c5
            refine funG1 tb_ok Tryz.func13 rfl Tryz.ntmps13 Tryz.results13 rfl fun N => ?_
            repeat' (first | with_reducible refine rounds_on ?_ | with_reducible refine awp_rounds 5 ?_ | refine zt ?_ | (refine isR ?_; first | refine zo ?_ | refine x_callv (c1 _) ?_ | refine x_callv (c1) ?_ | refine x_callv (c2 _) ?_ | refine x_callv (c2) ?_ | refine x_callv (c3 _) ?_ | refine x_callv (c3) ?_ | refine x_callv (c4 _) ?_ | refine x_callv (c4) ?_ | refine zk c5 ?_ | refine zA ?_ | refine zc1 ?_ | refine zc6 ?_ | refine zI ?_ | (refine zs1 ?_ ?_ <;> intro hc) | (refine zs6 ?_ ?_ <;> intro hc)) | refine awp_split rfl (fun hb => ?_) (fun hb => ?_) | refine zr ?_ | exact x_le)
            all_goals first | rfl | (exfalso; omega)
          · rw [if_neg h5]
            have h5 : isJ t = true := by simpa using h5
            rw [h5] at c5
            have hr : Rj L nx := check_zero.1 h2
            have hlen := hr.len
            have c6 := purged_v (S := S) (nx := nx) (g := g) (P := P) (U := U) (t := t) (check_ok h3) hr.len hd (mom_of hr)
            have hk := kept_len (p := p) (P := P) (U := U) (now := t) L
            have c7 := equal_v (L := keptF p P U t L) (K := L) (by omega)
            generalize keptF p P U t L = K at *
            by_cases h6 : K = L
            · rw [if_pos h6]
              rw [decide_eq_true h6] at c7
              refine funG1 tb_ok Tryz.func13 rfl Tryz.ntmps13 Tryz.results13 rfl fun N => ?_
              repeat' (first | with_reducible refine rounds_on ?_ | with_reducible refine awp_rounds 5 ?_ | refine zt ?_ | (refine isR ?_; first | refine zo ?_ | refine x_callv (c1 _) ?_ | refine x_callv (c1) ?_ | refine x_callv (c2 _) ?_ | refine x_callv (c2) ?_ | refine x_callv (c3 _) ?_ | refine x_callv (c3) ?_ | refine x_callv (c4 _) ?_ | refine x_callv (c4) ?_ | refine zk c5 ?_ | refine zk c6 ?_ | refine zk c7 ?_ | refine zA ?_ | refine zc1 ?_ | refine zc6 ?_ | refine zI ?_ | (refine zs1 ?_ ?_ <;> intro hc) | (refine zs6 ?_ ?_ <;> intro hc)) | refine awp_split rfl (fun hb => ?_) (fun hb => ?_) | refine zr ?_ | exact x_le)
              all_goals first | rfl | (exfalso; omega)
            · rw [if_neg h6]
              rw [decide_eq_false h6] at c7
              refine funG1 tb_ok Tryz.func13 rfl Tryz.ntmps13 Tryz.results13 rfl fun N => ?_
              repeat' (first | with_reducible refine rounds_on ?_ | with_reducible refine awp_rounds 5 ?_ | refine zt ?_ | (refine isR ?_; first | refine zo ?_ | refine x_callv (c1 _) ?_ | refine x_callv (c1) ?_ | refine x_callv (c2 _) ?_ | refine x_callv (c2) ?_ | refine x_callv (c3 _) ?_ | refine x_callv (c3) ?_ | refine x_callv (c4 _) ?_ | refine x_callv (c4) ?_ | refine zk c5 ?_ | refine zk c6 ?_ | refine zk c7 ?_ | refine zA ?_ | refine zc1 ?_ | refine zc6 ?_ | refine zI ?_ | (refine zs1 ?_ ?_ <;> intro hc) | (refine zs6 ?_ ?_ <;> intro hc)) | refine awp_split rfl (fun hb => ?_) (fun hb => ?_) | refine zr ?_ | exact x_le)
              all_goals first | rfl | (exfalso; omega)
        · rw [if_pos h4]
          generalize GrantP.check g U = z at *
          refine funG1 tb_ok Tryz.func13 rfl Tryz.ntmps13 Tryz.results13 rfl fun N => ?_
          repeat' (first | with_reducible refine rounds_on ?_ | with_reducible refine awp_rounds 5 ?_ | refine zt ?_ | (refine isR ?_; first | refine zo ?_ | refine x_callv (c1 _) ?_ | refine x_callv (c1) ?_ | refine x_callv (c2 _) ?_ | refine x_callv (c2) ?_ | refine x_callv (c3 _) ?_ | refine x_callv (c3) ?_ | refine x_callv (c4 _) ?_ | refine x_callv (c4) ?_ | refine zA ?_ | refine zc1 ?_ | refine zc6 ?_ | refine zI ?_ | (refine zs1 ?_ ?_ <;> intro hc) | (refine zs6 ?_ ?_ <;> intro hc)) | refine awp_split rfl (fun hb => ?_) (fun hb => ?_) | refine zr ?_ | exact x_le)
          all_goals first | rfl | (exfalso; omega)
      · rw [if_pos h3]
        generalize checkP p = z at *
        refine funG1 tb_ok Tryz.func13 rfl Tryz.ntmps13 Tryz.results13 rfl fun N => ?_
        repeat' (first | with_reducible refine rounds_on ?_ | with_reducible refine awp_rounds 5 ?_ | refine zt ?_ | (refine isR ?_; first | refine zo ?_ | refine x_callv (c1 _) ?_ | refine x_callv (c1) ?_ | refine x_callv (c2 _) ?_ | refine x_callv (c2) ?_ | refine x_callv (c3 _) ?_ | refine x_callv (c3) ?_ | refine zA ?_ | refine zc1 ?_ | refine zc6 ?_ | refine zI ?_ | (refine zs1 ?_ ?_ <;> intro hc) | (refine zs6 ?_ ?_ <;> intro hc)) | refine awp_split rfl (fun hb => ?_) (fun hb => ?_) | refine zr ?_ | exact x_le)
        all_goals first | rfl | (exfalso; omega)
    · rw [if_pos h2]
      generalize checkJ L nx = z at *
      refine funG1 tb_ok Tryz.func13 rfl Tryz.ntmps13 Tryz.results13 rfl fun N => ?_
      repeat' (first | with_reducible refine rounds_on ?_ | with_reducible refine awp_rounds 5 ?_ | refine zt ?_ | (refine isR ?_; first | refine zo ?_ | refine x_callv (c1 _) ?_ | refine x_callv (c1) ?_ | refine x_callv (c2 _) ?_ | refine x_callv (c2) ?_ | refine zA ?_ | refine zc1 ?_ | refine zc6 ?_ | refine zI ?_ | (refine zs1 ?_ ?_ <;> intro hc) | (refine zs6 ?_ ?_ <;> intro hc)) | refine awp_split rfl (fun hb => ?_) (fun hb => ?_) | refine zr ?_ | exact x_le)
      all_goals first | rfl | (exfalso; omega)
  · rw [if_pos h1]
    generalize SufP.checkF S = z at *
    refine funG1 tb_ok Tryz.func13 rfl Tryz.ntmps13 Tryz.results13 rfl fun N => ?_
    repeat' (first | with_reducible refine rounds_on ?_ | with_reducible refine awp_rounds 5 ?_ | refine zt ?_ | (refine isR ?_; first | refine zo ?_ | refine x_callv (c1 _) ?_ | refine x_callv (c1) ?_ | refine zA ?_ | refine zc1 ?_ | refine zc6 ?_ | refine zI ?_ | (refine zs1 ?_ ?_ <;> intro hc) | (refine zs6 ?_ ?_ <;> intro hc)) | refine awp_split rfl (fun hb => ?_) (fun hb => ?_) | refine zr ?_ | exact x_le)
    all_goals first | rfl | (exfalso; omega)
end Go.Proofs.YtpffdbplcgmilaaGreatDoor.GovA
end
