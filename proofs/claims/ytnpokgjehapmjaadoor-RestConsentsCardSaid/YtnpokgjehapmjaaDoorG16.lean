/- Texts of the proof, joined: ConK, ConN, ConO, ConTA, ConTB, ConTC. -/
import Derived.Test.YtnpokgjehapmjaaDoorG15
import Derived.Lib.SliceRun
import Derived.Test.YtnpokgjehapmjaaDoorG10
import Derived.Test.YtnpokgjehapmjaaDoorG14
section
namespace Go.Proofs.YtnpokgjehapmjaaDoor.Abs
open Go.RowKit Mem Facts
section
variable {P : Program} {tb : List Ty} {N : Env} {Q : Exit → S → Prop} {s : S}
theorem fro_slice2 {X A : Nat → Prop} {φ : Nat → Pl} {w : World} {xs : List V} {v : Value} (h : Rep X A φ w (.fro xs) v) : ∃ a n c, v = .slice a n c ∧ (a = none → xs = []) := by
  cases h with
  | fz h => cases h with
    | fro0 h => exact ⟨_, _, _, rfl, fun _ => rfl⟩
    | fro c h1 => exact ⟨_, _, _, rfl, fun h => by cases h⟩
/-- Is a frozen slice nil? It may be, if it is empty. -/
theorem awp_nilq {id d1 d2 T el : Nat} {T' : TypeId} {x : Operand} {o1 o2 : Oper} {xs : List V} {e : Ty} (htb : TbOk P tb) (k : ∀ b, (b = true → xs = []) → Q .normal ⟨(d2, .bool b) :: (d1, .fro xs) :: s.tm, s.st, s.nx, s.nt⟩)
    (ho1 : o1.op = .move x := by rfl) (hx : s.ev x = some (.fro xs) := by rfl) (hg1 : o1.guard = none := by rfl) (hd1 : o1.dst = some d1 := by rfl) (l1 : Nat.blt d1 s.nt = true := by rfl)
    (ho2 : o2.op = .binOp .eql T (.tmp d1) (.const (.slice none 0 0)) T' := by rfl) (hg2 : o2.guard = none := by rfl) (hd2 : o2.dst = some d2 := by rfl) (l2 : Nat.blt d2 s.nt = true := by rfl)
    (hT : nth tb T = some e := by rfl) (hs : e.sl = some el := by rfl) : AWp P N (.region id #[o1, o2] false) Q s := fun M φ a w hr => by
  refine wp_region_lit (l := [o1, o2]) (wpList_step fun K hK => ?_)
  rw [if_pos (guard_wanted (s := s) (b := true) (by unfold guardV; rw [hg1]) hr)]
  have hv := hr.ev hx
  have r1 : (execOp a.eval o1).run P w = .ok (.value (a.eval x)) w := by unfold execOp; simp only [ho1]; rfl
  unfold Oper.wp
  rw [r1]
  refine hK _ _ (wpList_step fun K2 hK2 => ?_)
  have hr1 : Rel N M (· < s.nx) φ (s.eff o1.dst (.fro xs) [] s.nx) (a.put o1.dst (a.eval x)) w := rel_dst hr hv fun d h => by rw [hd1] at h; cases h; exact blt_lt l1
  rw [if_pos (guard_wanted (s := s.eff o1.dst (.fro xs) [] s.nx) (b := true) (by unfold guardV; rw [hg2]) hr1)]
  have hv1 : Rep (fun b => M b ∨ N b) (· < s.nx) φ w (.fro xs) ((a.put o1.dst (a.eval x)).eval (.tmp d1)) := hr1.ev (by rw [hd1]; simp [S.ev, S.eff, lk])
  obtain ⟨A, n, c, he, hA⟩ := fro_slice2 hv1
  obtain ⟨ti, d, ht⟩ := ty_at htb hT
  have r2 : (execOp (a.put o1.dst (a.eval x)).eval o2).run P w = .ok (.value (.bool A.isNone)) w := by
    have hq := Lib.run_eql_slice_nil (P := P) w T el A n c 0 0 (slOf_und ht hs)
    have hc : (a.put o1.dst (a.eval x)).eval (.const (.slice none 0 0)) = .slice none 0 0 := rfl
    unfold execOp
    simp only [ho2, he, hc, eqGuard]
    simp only [Sem.run_bind, Bool.not_true, Bool.false_eq_true, if_false, Sem.run_pure, Result.andThen_ok, hq]
  unfold Oper.wp
  rw [r2]
  refine hK2 _ _ (wpList_nil ⟨M, φ, _, .refl _ w, fun _ _ h => h, ?_, k A.isNone fun h => hA (by simpa using h)⟩)
  have hr2 := rel_dst hr1 (dst := o2.dst) (v := .bool A.isNone) (x := .bool A.isNone) (nx := s.nx) (.fz .bool) fun d h => by rw [hd2] at h; cases h; exact blt_lt l2
  exact hr2.as (fun t => by rw [hd1, hd2]; rfl) (fun _ => rfl) rfl
end
end Go.Proofs.YtnpokgjehapmjaaDoor.Abs
namespace Go.Proofs.YtnpokgjehapmjaaDoor.ConK
open Go.RowKit Mem Abs Scan BitsP ConP ConQ ConC ConM

abbrev fnV (w : Int) : Abs.V := .fn (.func 17) [] [.fp [.int .i64 w] 0]
def isV (w : Int) (v : Nat) : Bool := decide ((v : Int) = w)
def minI (o : Option Nat) : Int := match o with
  | none => -1
  | some a => (a : Int)
set_option maxRecDepth 100000 in
set_option maxHeartbeats 4000000 in
theorem cloneN_m {U : List Nat} (hb : U.length ≤ 1000) : MCalls Tryd.prog 16 [natsV U] [] (.own 0 0 U.length) [some (rI U)] := by
  refine mfun tb_ok Tryd.func16 rfl Tryd.ntmps16 Tryd.results16 rfl rfl rfl rfl fun N pl => ?_
  repeat' (first | refine awp_nilq tb_ok (fun b hq => ?_) | (with_reducible refine awp_name (c := Code.ret) (t := 2) TI 1 (by decide) rfl rfl ?_) | refine x_mret [1] ?_ ?_ | refine zt ?_ | (refine isR ?_; first | refine x_far [5] tb_ok rfl ?_ | refine zn ?_ | refine x_appK natV (L := []) (K' := U) tb_ok ?_ | refine x_bsO 5 tb_ok ?_ | refine x_bs tb_ok ?_ | refine zc5 ?_ | (refine zs5 ?_ ?_ <;> intro hc)) | refine awp_split rfl (fun hb => ?_) (fun hb => ?_) | refine x_mret [0] ?_ ?_ | refine x_mnor [0] ?_ ?_ | refine zr ?_ | exact x_le)
  all_goals first
    | (have hn := hq hb; simp only [List.map_eq_nil_iff] at hn; subst hn; first | rfl | exact .on (.same rfl) .nil)
    | rfl
    | exact .on (.same (nl_map fun _ => rfl)) .nil
set_option maxRecDepth 100000 in
set_option maxHeartbeats 4000000 in
theorem isV_v {v : Nat} {w : Int} : ACalls Tryd.prog 17 [natV v, .fp [.int .i64 w] 0] (.bool (isV w v)) := by
  unfold isV
  by_cases h : (v : Int) = w
  · rw [decide_eq_true h]
    refine fun2 tb_ok Tryd.func17 rfl Tryd.ntmps17 Tryd.results17 rfl fun N => ?_
    repeat' (first | refine zt ?_ | (refine isR ?_; first | refine zo ?_ | refine zc5 ?_ | (refine zs5 ?_ ?_ <;> intro hc)) | refine awp_split rfl (fun hb => ?_) (fun hb => ?_) | refine zr ?_ | exact x_le)
    all_goals rfl
  · rw [decide_eq_false h]
    refine fun2 tb_ok Tryd.func17 rfl Tryd.ntmps17 Tryd.results17 rfl fun N => ?_
    repeat' (first | refine zt ?_ | (refine isR ?_; first | refine zo ?_ | refine zc5 ?_ | (refine zs5 ?_ ?_ <;> intro hc)) | refine awp_split rfl (fun hb => ?_) (fun hb => ?_) | refine zr ?_ | exact x_le)
    all_goals rfl
set_option maxRecDepth 100000 in
set_option maxHeartbeats 4000000 in
theorem idxV_m {U : List Nat} {w : Int} (hb : U.length ≤ 1000) : MCalls Tryd.prog 25 [.own 0 0 U.length, fnV w] [rI U] (.int .i64 (minI (U.findIdx? (isV w)))) [some (rI U)] := by
  have hml : (U.map natV).length = U.length := List.length_map _
  generalize hR : minI (U.findIdx? (isV w)) = R
  refine mfun tb_ok Tryd.func25 rfl Tryd.ntmps25 Tryd.results25 rfl rfl rfl rfl fun N pl => ?_
  repeat' (first | refine zt ?_ | (refine isR ?_; first | refine zo ?_ | refine zA ?_ | refine zL ?_ | refine zc1 ?_ | refine zI ?_ | (refine zs1 ?_ ?_ <;> intro hc)) | refine awp_split rfl (fun hb => ?_) (fun hb => ?_) | refine zr ?_ | exact x_le)
  refine awp_forN (fun k => ⟨[(0, .own 0 0 U.length), (1, fnV w), (7, natV U.length), (8, natV k)], [(0, some (rI U))], 1, 19⟩) (fun k => k ≤ U.length ∧ ∀ j x, j < k → U[j]? = some x → isV w x = false) U.length 0 (by exact x_le) ⟨Nat.zero_le _, fun j x h => by omega⟩ ?_
  rintro k ⟨hk, hd⟩
  by_cases hk2 : k < U.length
  · have hx : U[k]? = some U[k] := by simp [hk2]
    have c1 := isV_v (v := U[k]) (w := w)
    have hfi : isV w U[k] = true → U.findIdx? (isV w) = some k := fun h => by
      rw [List.findIdx?_eq_some_iff_getElem]
      exact ⟨hk2, h, fun j hj => by simp [hd j (U[j]'(by omega)) hj (by simp [show j < U.length by omega])]⟩
    generalize U[k] = c at *
    have hm := at_map (f := natV) hx
    by_cases h : isV w c = true
    · rw [hfi h] at hR
      have hR : (k : Int) = R := hR
      rw [h] at c1
      repeat' (first | refine zt ?_ | (refine isR ?_; first | refine zo ?_ | refine x_ldI natV k tb_ok ?_ | refine x_callv (c1 _) ?_ | refine x_callv (c1) ?_ | refine zA ?_ | refine zL ?_ | refine zc1 ?_ | refine zI ?_ | (refine zs1 ?_ ?_ <;> intro hc)) | refine awp_split rfl (fun hb => ?_) (fun hb => ?_) | refine x_mret [0] ?_ ?_ | refine x_mnor [0] ?_ ?_ | refine zr ?_ | exact x_le)
      · rw [← hR]; rfl
      · exact .on (.same (nl_map fun _ => rfl)) .nil
    · have h : isV w c = false := by simpa using h
      rw [h] at c1
      repeat' (first | refine zt ?_ | (refine isR ?_; first | refine zo ?_ | refine x_ldI natV k tb_ok ?_ | refine x_callv (c1 _) ?_ | refine x_callv (c1) ?_ | refine zA ?_ | refine zL ?_ | refine zc1 ?_ | refine zI ?_ | (refine zs1 ?_ ?_ <;> intro hc)) | refine awp_split rfl (fun hb => ?_) (fun hb => ?_) | refine x_mret [0] ?_ ?_ | refine x_mnor [0] ?_ ?_ | refine zr ?_ | exact x_le)
      refine ⟨⟨by omega, fun j x hj hx2 => ?_⟩, hk2, ?_⟩
      · by_cases e : j = k
        · subst e; rw [hx] at hx2; cases hx2; exact h
        · exact hd j x (by omega) hx2
      · exact (by exact x_len [0])
  · obtain rfl : k = U.length := by omega
    have hn : U.findIdx? (isV w) = none := by
      rw [List.findIdx?_eq_none_iff]
      intro x hx
      obtain ⟨j, hj⟩ := List.mem_iff_getElem?.1 hx
      rw [hd j x (List.getElem?_eq_some_iff.1 hj).1 hj]
    rw [hn] at hR
    subst hR
    repeat' (first | refine zt ?_ | (refine isR ?_; first | refine zo ?_ | refine zA ?_ | refine zL ?_ | refine zc1 ?_ | refine zI ?_ | (refine zs1 ?_ ?_ <;> intro hc)) | refine awp_split rfl (fun hb => ?_) (fun hb => ?_) | refine x_mret [0] ?_ ?_ | refine x_mnor [0] ?_ ?_ | refine zr ?_ | exact x_le)
    · rfl
    · exact .on (.same (nl_map fun _ => rfl)) .nil
abbrev keepV (w : Int) (U : List Nat) : List Nat := U.filter fun v => !isV w v
set_option maxRecDepth 100000 in
set_option maxHeartbeats 4000000 in
theorem delV_m {L : List Nat} {w : Int} (hb : L.length ≤ 1000) : MCalls Tryd.prog 15 [.own 0 0 L.length, fnV w] [rI L] (.own 0 0 (keepV w L).length) [some (rI (keepV w L))] := by
  have hml : (L.map natV).length = L.length := List.length_map _
  have c1 := idxV_m (w := w) hb
  cases hf : L.findIdx? (isV w) with
  | none =>
    rw [hf] at c1
    change MCalls _ _ _ _ (.int .i64 (-1)) _ at c1
    have e : keepV w L = L := by
      rw [List.filter_eq_self]
      intro c hc
      rw [List.findIdx?_eq_none_iff] at hf
      simp [hf c hc]
    rw [e]
    refine mfun tb_ok Tryd.func15 rfl Tryd.ntmps15 Tryd.results15 rfl rfl rfl rfl fun N pl => ?_
    repeat' (first | refine zt ?_ | (refine isR ?_; first | refine zo ?_ | refine x_m [0] [] (c1 _) ?_ | refine x_m0 [0] [] (c1 _) ?_ | refine x_m [0] [] (c1) ?_ | refine x_m0 [0] [] (c1) ?_ | refine zA ?_ | refine zL ?_ | refine zc1 ?_ | refine zc5 ?_ | refine zI ?_ | refine zS ?_ | (refine zs1 ?_ ?_ <;> intro hc) | (refine zs5 ?_ ?_ <;> intro hc)) | refine awp_split rfl (fun hb => ?_) (fun hb => ?_) | refine x_mret [0] ?_ ?_ | refine x_mnor [0] ?_ ?_ | refine zr ?_ | exact x_le)
    · rfl
    · exact .on (.same (nl_map fun _ => rfl)) .nil
  | some i0 =>
    rw [hf] at c1
    change MCalls _ _ _ _ (.int .i64 (i0 : Int)) _ at c1
    obtain ⟨hi0, hd0, hlow⟩ := List.findIdx?_eq_some_iff_getElem.1 hf
    have ht0 : L.take i0 = keepV w (L.take (i0 + 1)) := by
      have hx : L[i0]? = some L[i0] := by simp [hi0]
      rw [List.take_add_one, hx, keepV, List.filter_append]
      rw [List.filter_eq_self.2 fun c hc => by
        obtain ⟨j, hj, rfl⟩ := List.mem_iff_getElem.1 hc
        have hj2 : j < i0 := by simp at hj; omega
        have := hlow j hj2
        simpa using this]
      simp [hd0]
    refine mfun tb_ok Tryd.func15 rfl Tryd.ntmps15 Tryd.results15 rfl rfl rfl rfl fun N pl => ?_
    repeat' (first | refine zt ?_ | (refine isR ?_; first | refine zo ?_ | refine x_m [0] [] (c1 _) ?_ | refine x_m0 [0] [] (c1 _) ?_ | refine x_m [0] [] (c1) ?_ | refine x_m0 [0] [] (c1) ?_ | refine zA ?_ | refine zL ?_ | refine zc1 ?_ | refine zc5 ?_ | refine zI ?_ | refine zS ?_ | (refine zs1 ?_ ?_ <;> intro hc) | (refine zs5 ?_ ?_ <;> intro hc)) | refine awp_split rfl (fun hb => ?_) (fun hb => ?_) | refine zr ?_ | exact x_le)
    refine awp_whileN (α := Nat × Nat × List Nat) (fun x => ⟨[(0, .own 0 0 L.length), (1, fnV w), (5, natV x.2.1), (6, natV x.1)], [(0, some (rI x.2.2))], 1, 42⟩) (fun x => x.1 ≤ L.length ∧ x.2.1 < x.1 ∧ x.2.2.length = L.length ∧ x.2.2.take x.2.1 = keepV w (L.take x.1) ∧ x.2.2.drop x.1 = L.drop x.1 ∧ x.2.1 = (keepV w (L.take x.1)).length) (fun x => L.length - x.1) (i0 + 1, i0, L) (by exact x_le) ⟨by dsimp only; omega, by dsimp only; omega, rfl, ht0, rfl, by dsimp only; rw [← ht0, List.length_take]; omega⟩ ?_
    rintro ⟨j, i, M⟩ ⟨g1, g2, g3, g4, g5, g6⟩
    dsimp only at g1 g2 g3 g4 g5 g6 ⊢
    have hmM : (M.map natV).length = L.length := by rw [List.length_map, g3]
    by_cases hj : j < L.length
    · have hx : L[j]? = some L[j] := by simp [hj]
      have hxM : M[j]? = some L[j] := by
        have := congrArg (fun q => q[0]?) g5
        simpa [hj] using this
      have hyM : M[i]? = some (M[i]'(by omega)) := by simp [show i < M.length by omega]
      have ht : keepV w (L.take (j + 1)) = keepV w (L.take j) ++ if isV w L[j] = true then [] else [L[j]] := by
        unfold keepV
        rw [List.take_add_one, hx, List.filter_append]
        congr 1
        by_cases h : isV w L[j] = true <;> simp [h]
      have c2 := isV_v (v := L[j]) (w := w)
      generalize M[i]'(by omega) = d at *
      generalize L[j] = c at *
      generalize hE1 : keepV w (L.take (j + 1)) = E1 at *
      generalize keepV w (L.take j) = E at *
      have hset : (M.set i c).take (i + 1) = M.take i ++ [c] := by
        rw [List.take_add_one, List.take_set_of_le (Nat.le_refl _), List.getElem?_set, if_pos rfl, if_pos (by omega)]
        rfl
      have hdrop : (M.set i c).drop (j + 1) = L.drop (j + 1) := by
        rw [List.drop_set_of_lt (by omega), ← List.drop_drop, g5, List.drop_drop]
      have hdrop2 : M.drop (j + 1) = L.drop (j + 1) := by rw [← List.drop_drop, g5, List.drop_drop]
      by_cases h : isV w c = true
      · rw [if_pos h, List.append_nil] at ht
        rw [h] at c2
        repeat' (first | refine zt ?_ | (refine isR ?_; first | refine zo ?_ | refine x_ldI natV j tb_ok ?_ | refine x_callv (c2 _) ?_ | refine x_callv (c2) ?_ | refine zA ?_ | refine zL ?_ | refine zc1 ?_ | refine zc5 ?_ | refine zI ?_ | refine zS ?_ | (refine zs1 ?_ ?_ <;> intro hc) | (refine zs5 ?_ ?_ <;> intro hc)) | refine awp_split rfl (fun hb => ?_) (fun hb => ?_) | refine zr ?_ | exact x_le)
        refine ⟨(j + 1, i, M), ⟨by dsimp only; omega, by dsimp only; omega, g3, ?_, hdrop2, ?_⟩, by dsimp only; omega, ?_⟩
        · show M.take i = keepV w (L.take (j + 1))
          rw [hE1, g4, ht]
        · show i = (keepV w (L.take (j + 1))).length
          rw [hE1, ht]; exact g6
        · exact (by exact x_len [0])
      · rw [if_neg h] at ht
        have h : isV w c = false := by simpa using h
        rw [h] at c2
        repeat' (first | refine zt ?_ | (refine isR ?_; first | refine zo ?_ | refine x_ldI natV j tb_ok ?_ | refine x_callv (c2 _) ?_ | refine x_callv (c2) ?_ | refine x_stI natV (a1 := c) i tb_ok ?_ | refine zA ?_ | refine zL ?_ | refine zc1 ?_ | refine zc5 ?_ | refine zI ?_ | refine zS ?_ | (refine zs1 ?_ ?_ <;> intro hc) | (refine zs5 ?_ ?_ <;> intro hc)) | refine awp_split rfl (fun hb => ?_) (fun hb => ?_) | refine zr ?_ | exact x_le)
        refine ⟨(j + 1, i + 1, M.set i c), ⟨by dsimp only; omega, by dsimp only; omega, by simp [g3], ?_, hdrop, ?_⟩, by dsimp only; omega, ?_⟩
        · show (M.set i c).take (i + 1) = keepV w (L.take (j + 1))
          rw [hE1, hset, g4, ht]
        · show i + 1 = (keepV w (L.take (j + 1))).length
          rw [hE1, ht, List.length_append, ← g6]; rfl
        · exact (by exact x_len [0])
    · obtain rfl : j = L.length := by omega
      rw [List.take_length] at g4 g6
      generalize keepV w L = E at *
      have g4 : M.take (0 + i) = E := by rw [Nat.zero_add]; exact g4
      subst g6
      repeat' (first | refine zt ?_ | (refine isR ?_; first | refine zo ?_ | refine x_slOf tb_ok ?_ | refine x_clear natV E tb_ok ?_ | refine x_slOt tb_ok ?_ | refine zA ?_ | refine zL ?_ | refine zc1 ?_ | refine zc5 ?_ | refine zI ?_ | refine zS ?_ | (refine zs1 ?_ ?_ <;> intro hc) | (refine zs5 ?_ ?_ <;> intro hc)) | refine awp_split rfl (fun hb => ?_) (fun hb => ?_) | refine x_mret [0] ?_ ?_ | refine x_mnor [0] ?_ ?_ | refine zr ?_ | exact x_le)
      · rfl
      · exact .on (.same (nl_map fun _ => rfl)) .nil
def dropP (p : Nat) (P : Nat → Bool) (i : Nat) : Bool := if i + 1 = p then false else P i
set_option maxRecDepth 100000 in
set_option maxHeartbeats 4000000 in
theorem drop_m {g n p : Nat} {P : Nat → Bool} {U : List Nat} {w : Int} (h1 : g ≤ n) (h2 : n ≤ 68719476735) (hU : RightN U) (hp : p ≤ 10) (hw : 0 ≤ w ∧ w ≤ 40) :
    MCalls Tryd.prog 6 [conN g P U, natV p, .int .i64 w, natV n] [] (.tup [conW n (dropP p P) 0 (keepV w U).length, .int .i64 0]) [some (rI (keepV w U))] := by
  have c1 := check_v (g := (g : Int)) (P := P) (L := toI U)
  rw [nat_check (by omega) hU, ← conN_int] at c1
  have hf := right_few hU
  have c2 := cloneN_m (U := U) (by omega)
  have c3 := delV_m (L := U) (w := w) (by omega)
  generalize keepV w U = E at *
  have hpc : p = 0 ∨ p = 1 ∨ p = 2 ∨ p = 3 ∨ p = 4 ∨ p = 5 ∨ p = 6 ∨ p = 7 ∨ p = 8 ∨ p = 9 ∨ p = 10 := by omega
  rcases hpc with rfl | rfl | rfl | rfl | rfl | rfl | rfl | rfl | rfl | rfl | rfl
  all_goals
    refine mfun tb_ok Tryd.func6 rfl Tryd.ntmps6 Tryd.results6 rfl rfl rfl rfl fun N pl => ?_
    repeat' (first | refine zt ?_ | (refine isR ?_; first | refine x_far [4] tb_ok rfl ?_ | refine zn ?_ | refine zk c1 ?_ | refine x_m [] [2] (c2 _) ?_ | refine x_m0 [] [2] (c2 _) ?_ | refine x_m [] [2] (c2) ?_ | refine x_m0 [] [2] (c2) ?_ | refine x_m [2] [] (c3 _) ?_ | refine x_m0 [2] [] (c3 _) ?_ | refine x_m [2] [] (c3) ?_ | refine x_m0 [2] [] (c3) ?_ | refine zA ?_ | refine zc1 ?_ | refine zc3 ?_ | refine zc6 ?_ | refine zI ?_ | (refine zs1 ?_ ?_ <;> intro hc) | (refine zs3 ?_ ?_ <;> intro hc) | (refine zs6 ?_ ?_ <;> intro hc)) | refine awp_split rfl (fun hb => ?_) (fun hb => ?_) | refine x_mret [2] ?_ ?_ | refine x_mnor [2] ?_ ?_ | refine zr ?_ | exact x_le)
    · rfl
    · exact .on (.same (nl_map fun _ => rfl)) .nil
set_option maxRecDepth 100000 in
set_option maxHeartbeats 4000000 in
theorem dropNo_v {g p w n : Int} {P : Nat → Bool} {L : List Int} {e : Nat} (h0 : e ≠ 0) (he : (if GrantP.check g L ≠ 0 then GrantP.check g L else if p < 0 ∨ 10 < p ∨ w < 0 ∨ 40 < w then 3 else if n < g ∨ 68719476735 < n then 4 else 0) = e) :
    ACalls Tryd.prog 6 [conI g P L, .int .i64 p, .int .i64 w, .int .i64 n] (.tup [noC, natV e]) := by
  have c1 := check_v (g := g) (P := P) (L := L)
  by_cases h1 : GrantP.check g L = 0
  · rw [if_neg (by rw [h1]; simp)] at he
    rw [h1] at c1
    by_cases h2 : p < 0 ∨ 10 < p ∨ w < 0 ∨ 40 < w
    · rw [if_pos h2] at he
      subst he
      refine fun4 tb_ok Tryd.func6 rfl Tryd.ntmps6 Tryd.results6 rfl fun N => ?_
      repeat' (first | refine zt ?_ | (refine isR ?_; first | refine x_far [4] tb_ok rfl ?_ | refine zn ?_ | refine zk c1 ?_ | refine zA ?_ | refine zc1 ?_ | refine zc3 ?_ | refine zc6 ?_ | refine zI ?_ | (refine zs1 ?_ ?_ <;> intro hc) | (refine zs3 ?_ ?_ <;> intro hc) | (refine zs6 ?_ ?_ <;> intro hc)) | refine awp_split rfl (fun hb => ?_) (fun hb => ?_) | refine zr ?_ | exact x_le)
      all_goals first | rfl | (exfalso; omega)
    · rw [if_neg h2] at he
      by_cases h3 : n < g ∨ 68719476735 < n
      · rw [if_pos h3] at he
        subst he
        have h4 : ¬ p < 0 := by omega
        have h5 : ¬ 10 < p := by omega
        have h6 : ¬ w < 0 := by omega
        have h7 : ¬ 40 < w := by omega
        refine fun4 tb_ok Tryd.func6 rfl Tryd.ntmps6 Tryd.results6 rfl fun N => ?_
        repeat' (first | refine zt ?_ | (refine isR ?_; first | refine x_far [4] tb_ok rfl ?_ | refine zn ?_ | refine zk c1 ?_ | refine zA ?_ | refine zc1 ?_ | refine zc3 ?_ | refine zc6 ?_ | refine zI ?_ | (refine zs1 ?_ ?_ <;> intro hc) | (refine zs3 ?_ ?_ <;> intro hc) | (refine zs6 ?_ ?_ <;> intro hc)) | refine awp_split rfl (fun hb => ?_) (fun hb => ?_) | refine zr ?_ | exact x_le)
        all_goals first | rfl | (exfalso; omega)
      · rw [if_neg h3] at he
        exact absurd he.symm h0
  · rw [if_pos h1] at he
    subst he
    generalize GrantP.check g L = z at *
    refine fun4 tb_ok Tryd.func6 rfl Tryd.ntmps6 Tryd.results6 rfl fun N => ?_
    repeat' (first | refine zt ?_ | (refine isR ?_; first | refine x_far [4] tb_ok rfl ?_ | refine zn ?_ | refine zk c1 ?_ | refine zA ?_ | refine zc1 ?_ | refine zc3 ?_ | refine zc6 ?_ | refine zI ?_ | (refine zs1 ?_ ?_ <;> intro hc) | (refine zs3 ?_ ?_ <;> intro hc) | (refine zs6 ?_ ?_ <;> intro hc)) | refine awp_split rfl (fun hb => ?_) (fun hb => ?_) | refine zr ?_ | exact x_le)
    all_goals first | rfl | (exfalso; omega)
end Go.Proofs.YtnpokgjehapmjaaDoor.ConK
end

section
namespace Go.Proofs.YtnpokgjehapmjaaDoor.ConN
open Go.RowKit Mem Abs Scan BitsP ConP ConQ ConC ConM ConK

def PG (i : Nat) : Bool := i == 0 || i == 3
def PB (i : Nat) : Bool := i == 0
abbrev UG : List Nat := [2, 3, 4, 9]
theorem rightG : RightN UG := ⟨by decide, by decide⟩
theorem rightB : RightN [3, 5] := ⟨by decide, by decide⟩
set_option maxRecDepth 100000 in
set_option maxHeartbeats 4000000 in
theorem agreed_v : ACalls Tryd.prog 19 [] (conN 1000 PG UG) := by
  refine fun0 tb_ok Tryd.func19 rfl Tryd.ntmps19 Tryd.results19 fun N => ?_
  repeat' (first | refine zt ?_ | (refine isR ?_; first | refine zo ?_ | refine x_bs tb_ok ?_) | refine awp_split rfl (fun hb => ?_) (fun hb => ?_) | refine zr ?_ | exact x_le)
  all_goals rfl
set_option maxRecDepth 100000 in
set_option maxHeartbeats 4000000 in
theorem index_v : ACalls Tryd.prog 42 [natsV UG, natV 9] (natV 3) := by
  have hml : (UG.map natV).length = 4 := rfl
  refine fun2 tb_ok Tryd.func42 rfl Tryd.ntmps42 Tryd.results42 rfl fun N => ?_
  repeat' (first | with_reducible refine rounds_on ?_ | with_reducible refine awp_rounds 5 ?_ | refine zt ?_ | (refine isR ?_; first | refine zo ?_ | refine zA ?_ | refine zL ?_ | refine zc1 ?_ | refine zc5 ?_ | refine zI ?_ | (refine zs1 ?_ ?_ <;> intro hc) | (refine zs5 ?_ ?_ <;> intro hc)) | refine awp_split rfl (fun hb => ?_) (fun hb => ?_) | refine zr ?_ | exact x_le)
  all_goals rfl
set_option maxRecDepth 100000 in
set_option maxHeartbeats 4000000 in
theorem has_v : ACalls Tryd.prog 33 [natsV UG, natV 9] (.bool true) := by
  have c1 := index_v
  refine fun2 tb_ok Tryd.func33 rfl Tryd.ntmps33 Tryd.results33 rfl fun N => ?_
  repeat' (first | refine zt ?_ | (refine isR ?_; first | refine zo ?_ | refine zk c1 ?_ | refine zc4 ?_ | (refine zs4 ?_ ?_ <;> intro hc)) | refine awp_split rfl (fun hb => ?_) (fun hb => ?_) | refine zr ?_ | exact x_le)
  all_goals rfl
set_option maxRecDepth 100000 in
set_option maxHeartbeats 4000000 in
theorem may1_v : ACalls Tryd.prog 21 [conN 1000 PG UG, natV 4, natV 9] (.bool true) := by
  have c1 := has_v
  refine fun3 tb_ok Tryd.func21 rfl Tryd.ntmps21 Tryd.results21 rfl fun N => ?_
  repeat' (first | refine zt ?_ | (refine isR ?_; first | refine zo ?_ | refine zk c1 ?_ | refine zA ?_ | refine zc1 ?_ | refine zc3 ?_ | refine zc5 ?_ | refine zc6 ?_ | refine zI ?_ | (refine zs1 ?_ ?_ <;> intro hc) | (refine zs3 ?_ ?_ <;> intro hc) | (refine zs5 ?_ ?_ <;> intro hc) | (refine zs6 ?_ ?_ <;> intro hc)) | refine awp_split rfl (fun hb => ?_) (fun hb => ?_) | refine zr ?_ | exact x_le)
  all_goals rfl
set_option maxRecDepth 100000 in
set_option maxHeartbeats 4000000 in
theorem may2_v : ACalls Tryd.prog 21 [conN 1000 PG UG, natV 2, natV 0] (.bool false) := by
  refine fun3 tb_ok Tryd.func21 rfl Tryd.ntmps21 Tryd.results21 rfl fun N => ?_
  repeat' (first | refine zt ?_ | (refine isR ?_; first | refine zo ?_ | refine zA ?_ | refine zc1 ?_ | refine zc3 ?_ | refine zc5 ?_ | refine zc6 ?_ | refine zI ?_ | (refine zs1 ?_ ?_ <;> intro hc) | (refine zs3 ?_ ?_ <;> intro hc) | (refine zs5 ?_ ?_ <;> intro hc) | (refine zs6 ?_ ?_ <;> intro hc)) | refine awp_split rfl (fun hb => ?_) (fun hb => ?_) | refine zr ?_ | exact x_le)
  all_goals rfl
set_option maxRecDepth 100000 in
set_option maxHeartbeats 4000000 in
theorem may3_v : ACalls Tryd.prog 21 [noC, natV 0, natV 0] (.bool true) := by
  refine fun3 tb_ok Tryd.func21 rfl Tryd.ntmps21 Tryd.results21 rfl fun N => ?_
  repeat' (first | refine zt ?_ | (refine isR ?_; first | refine zo ?_ | refine zA ?_ | refine zc1 ?_ | refine zc3 ?_ | refine zc5 ?_ | refine zc6 ?_ | refine zI ?_ | (refine zs1 ?_ ?_ <;> intro hc) | (refine zs3 ?_ ?_ <;> intro hc) | (refine zs5 ?_ ?_ <;> intro hc) | (refine zs6 ?_ ?_ <;> intro hc)) | refine awp_split rfl (fun hb => ?_) (fun hb => ?_) | refine zr ?_ | exact x_le)
  all_goals rfl
set_option maxRecDepth 100000 in
set_option maxHeartbeats 4000000 in
theorem less_v : ACalls Tryd.prog 22 [conN 1000 PG UG, conN 5 PB [3, 5]] (.bool false) := by
  refine fun2 tb_ok Tryd.func22 rfl Tryd.ntmps22 Tryd.results22 rfl fun N => ?_
  repeat' (first | with_reducible refine rounds_on ?_ | with_reducible refine awp_rounds 5 ?_ | refine zt ?_ | (refine isR ?_; first | refine zo ?_ | refine zA ?_ | refine zc1 ?_ | refine zI ?_ | (refine zs1 ?_ ?_ <;> intro hc)) | refine awp_split rfl (fun hb => ?_) (fun hb => ?_) | refine zr ?_ | exact x_le)
  all_goals rfl
theorem pk_m : pick and UG [3, 5] 40 = [3] := by decide +kernel
theorem pk_j : pick or UG [3, 5] 40 = [2, 3, 4, 5, 9] := by decide +kernel
theorem pk_d : keepV 9 UG = [2, 3, 4] := by decide +kernel
set_option maxRecDepth 100000 in
set_option maxHeartbeats 4000000 in
theorem gbegun_v : ACalls Tryd.prog 8 [] (.bool true) := by
  have ca := agreed_v
  have cm := meet_m (g1 := 1000) (g2 := 5) (P := PG) (Q := PB) (U := UG) (W := [3, 5]) (by decide) (by decide) rightG rightB
  rw [pk_m] at cm
  change MCalls _ _ _ _ (.tup [conW 1000 PB 0 1, .int .i64 0]) [some (rI [3])] at cm
  have cj := join_m (g1 := 1000) (g2 := 5) (P := PG) (Q := PB) (U := UG) (W := [3, 5]) (by decide) (by decide) rightG rightB
  rw [pk_j] at cj
  change MCalls _ _ _ _ (.tup [conW 1000 PG 0 5, .int .i64 0]) [some (rI [2, 3, 4, 5, 9])] at cj
  have cd := drop_m (g := 1000) (n := 2000) (p := 4) (P := PG) (U := UG) (w := 9) (by decide) (by decide) rightG (by decide) (by decide)
  rw [pk_d] at cd
  change MCalls _ _ [conN 1000 PG UG, .int .i64 4, .int .i64 9, .int .i64 2000] _ (.tup [conW 2000 PB 0 3, .int .i64 0]) [some (rI [2, 3, 4])] at cd
  have cn := dropNo_v (g := 1000) (p := 0) (w := 0) (n := 999) (P := PG) (L := toI UG) (e := 4) (by decide) (by decide +kernel)
  change ACalls _ _ [conN 1000 PG UG, .int .i64 0, .int .i64 0, .int .i64 999] _ at cn
  have s1 := same_t (g := ((1000 : Nat) : Int)) (P := PB) (L := toI [3])
  rw [← conN_int] at s1
  have s2 := sameInts_v (L := toI [2, 3, 4, 5, 9]) (K := toI [2, 3, 4, 5, 9])
  rw [decide_eq_true rfl, ← natsV_int] at s2
  have s3 := same_t (g := ((2000 : Nat) : Int)) (P := PB) (L := toI [2, 3, 4])
  rw [← conN_int] at s3
  have m1 := may1_v
  have m2 := may2_v
  have m3 := may3_v
  have l1 := less_v
  refine fun0 tb_ok Tryd.func8 rfl Tryd.ntmps8 Tryd.results8 fun N => ?_
  repeat' (first | refine zt ?_ | (refine isR ?_; first | refine zo ?_ | refine zk ca ?_ | refine x_m [] [1] (cm _) ?_ | refine x_m0 [] [1] (cm _) ?_ | refine x_m [] [1] (cm) ?_ | refine x_m0 [] [1] (cm) ?_ | refine x_m [] [3] (cj _) ?_ | refine x_m0 [] [3] (cj _) ?_ | refine x_m [] [3] (cj) ?_ | refine x_m0 [] [3] (cj) ?_ | refine x_m [] [5] (cd _) ?_ | refine x_m0 [] [5] (cd _) ?_ | refine x_m [] [5] (cd) ?_ | refine x_m0 [] [5] (cd) ?_ | refine zk cn ?_ | refine x_callz [1] (s1 _) ?_ | refine x_callz [1] (s1) ?_ | refine x_callz [3] (s2 _) ?_ | refine x_callz [3] (s2) ?_ | refine x_callz [5] (s3 _) ?_ | refine x_callz [5] (s3) ?_ | refine zk m1 ?_ | refine zk m2 ?_ | refine zk m3 ?_ | refine zk l1 ?_ | refine x_bs tb_ok ?_ | refine zc5 ?_ | (refine zs5 ?_ ?_ <;> intro hc)) | refine awp_split rfl (fun hb => ?_) (fun hb => ?_) | refine zr ?_ | exact x_le)
  all_goals first | rfl | (exfalso; omega)
end Go.Proofs.YtnpokgjehapmjaaDoor.ConN
end

section
namespace Go.Proofs.YtnpokgjehapmjaaDoor.ConO
open Go.RowKit Mem Abs Scan BitsP ConP ConQ ConC ConM ConK

abbrev conX (g : Int) (P : Nat → Bool) (v : Abs.V) : Abs.V := .agg [.int .i64 g, .bool (P 0), .bool (P 1), .bool (P 2), .bool (P 3), .bool (P 4), .bool (P 5), .bool (P 6), .bool (P 7), .bool (P 8), .bool (P 9), v]
abbrev rX (L : List Int) (z : Int) : Blk := .els TI 1 ((L ++ [z]).map (Abs.V.int .i64))
abbrev ownX (k : Nat) (L : List Int) : Abs.V := .own k 0 (L.map (Abs.V.int .i64)).length
abbrev cutX (L : List Int) (z : Int) : Abs.V := .fro (List.take (L.map (Abs.V.int .i64)).length (List.drop 0 ((L ++ [z]).map (Abs.V.int .i64))))
theorem tailV (L : List Int) (z : Int) : List.take (L.map (Abs.V.int .i64)).length (List.drop 0 ((L ++ [z]).map (Abs.V.int .i64))) = L.map (Abs.V.int .i64) := by
  rw [List.drop_zero, List.map_append, List.take_left]
theorem tail_ok {L : List Int} {z : Int} : 0 + (L.map (Abs.V.int .i64)).length ≤ ((L ++ [z]).map (Abs.V.int .i64)).length := by simp
theorem tail_no {M : List Int} : ∀ x : Abs.V, x ∈ M.map (Abs.V.int .i64) → x.names = [] := fun x hx => by obtain ⟨a, _, rfl⟩ := List.mem_map.1 hx; rfl
theorem toI_map (U : List Nat) : U.map natV = (toI U).map (Abs.V.int .i64) := by unfold toI; rw [List.map_map]; rfl
theorem owI {B : List Nat} : ∀ b ∈ [some (rI B)], OwB b := by
  intro b hb
  obtain rfl := List.mem_singleton.1 hb
  intro x hx u hu
  obtain ⟨a, _, rfl⟩ := List.mem_map.1 hx
  obtain rfl := List.mem_singleton.1 hu
  rfl
theorem hand2 {f : Nat} {g1 g2 g : Int} {P Q R : Nat → Bool} {L K : List Int} {B : List Nat} (c : MCalls Tryd.prog f [conI g1 P L, conI g2 Q K] [] (.tup [conX g R (.own 0 0 B.length), .int .i64 0]) [some (rI B)]) :
    MCalls Tryd.prog f [conX g1 P (ownX 0 L), conX g2 Q (ownX 1 K)] [rX L 77, rX K 78] (.tup [conX g R (.own 2 0 B.length), .int .i64 0]) [some (rX L 77), some (rX K 78), some (.els TI 1 ((toI B).map (Abs.V.int .i64)))] := by
  rw [← toI_map]
  refine mcalls_own c ?_ ?_ rfl owI rfl (.on (.same (nl_map fun _ => rfl)) .nil)
  · show some [conX g1 P (cutX L 77), conX g2 Q (cutX K 78)] = _
    rw [cutX, cutX, tailV, tailV]
  · repeat' first | exact trivial | exact rfl | exact tail_ok | exact tail_no | exact frz_map (fun _ => rfl) | constructor
theorem hand1 {f : Nat} {g1 g p w n : Int} {P R : Nat → Bool} {L : List Int} {B : List Nat} (c : MCalls Tryd.prog f [conI g1 P L, .int .i64 p, .int .i64 w, .int .i64 n] [] (.tup [conX g R (.own 0 0 B.length), .int .i64 0]) [some (rI B)]) :
    MCalls Tryd.prog f [conX g1 P (ownX 0 L), .int .i64 p, .int .i64 w, .int .i64 n] [rX L 77] (.tup [conX g R (.own 1 0 B.length), .int .i64 0]) [some (rX L 77), some (.els TI 1 ((toI B).map (Abs.V.int .i64)))] := by
  rw [← toI_map]
  refine mcalls_own c ?_ ?_ rfl owI rfl (.on (.same (nl_map fun _ => rfl)) .nil)
  · show some [conX g1 P (cutX L 77), _, _, _] = _
    rw [cutX, tailV]
  · repeat' first | exact trivial | exact rfl | exact tail_ok | exact tail_no | exact frz_map (fun _ => rfl) | constructor
def neg (k : Nat) (B : List Int) : List Int := B.mapIdx fun i b => if i < k then -5 else b
theorem neg_len (k : Nat) (B : List Int) : (neg k B).length = B.length := by simp [neg]
theorem neg_zero (B : List Int) : neg 0 B = B := by
  apply List.ext_getElem?
  intro i
  simp [neg]
theorem neg_at {k : Nat} {B : List Int} (h : k < B.length) : (neg k B)[k]? = some B[k] := by simp [neg, h]
theorem neg_set (k : Nat) (B : List Int) : (neg k B).set k (-5) = neg (k + 1) B := by
  apply List.ext_getElem?
  intro i
  rw [List.getElem?_set, neg_len]
  by_cases e : k = i
  · subst e
    rw [if_pos rfl]
    by_cases h : k < B.length
    · rw [if_pos h]; simp [neg, h]
    · rw [if_neg h]; simp [neg, Nat.le_of_not_lt h]
  · rw [if_neg e]
    simp only [neg, List.getElem?_mapIdx]
    have : (i < k) = (i < k + 1) := by apply propext; omega
    simp only [this]
end Go.Proofs.YtnpokgjehapmjaaDoor.ConO
end

section
namespace Go.Proofs.YtnpokgjehapmjaaDoor.ConTA
open Go.RowKit Mem Abs Scan BitsP ConP ConQ ConC ConM ConK ConO
set_option maxRecDepth 100000 in
set_option maxHeartbeats 4000000 in
theorem lawA {g1 g2 p w n : Int} {P Q : Nat → Bool} {L K : List Int} (hL : L.length ≤ 17592186043904) (hK : K.length ≤ 17592186043904) {gm gj : Int} {Pm Pj : Nat → Bool} {B1 B2 : List Nat} (cm : MCalls Tryd.prog 4 [conI g1 P L, conI g2 Q K] [] (.tup [conX gm Pm (.own 0 0 B1.length), .int .i64 0]) [some (rI B1)]) (cj : MCalls Tryd.prog 5 [conI g1 P L, conI g2 Q K] [] (.tup [conX gj Pj (.own 0 0 B2.length), .int .i64 0]) [some (rI B2)]) (hB1 : B1.length ≤ 1000) (hB2 : B2.length ≤ 1000) {gd : Int} {Pd : Nat → Bool} {B3 : List Nat} (cd : MCalls Tryd.prog 6 [conI g1 P L, .int .i64 p, .int .i64 w, .int .i64 n] [] (.tup [conX gd Pd (.own 0 0 B3.length), .int .i64 0]) [some (rI B3)]) (hB3 : B3.length ≤ 1000) : ACalls Tryd.prog 3 [conI g1 P L, conI g2 Q K, .int .i64 p, .int .i64 w, .int .i64 n] (.bool true) := by
  have hml : (L.map (Abs.V.int .i64)).length = L.length := List.length_map _
  have hmk : (K.map (Abs.V.int .i64)).length = K.length := List.length_map _
  have hq1 : (((L.map (Abs.V.int .i64)).length : Nat) : Int) + 1 = (((L.map (Abs.V.int .i64)).length + 1 : Nat) : Int) := by omega
  have hq2 : (((K.map (Abs.V.int .i64)).length : Nat) : Int) + 1 = (((K.map (Abs.V.int .i64)).length + 1 : Nat) : Int) := by omega
  have ha1 : (([] : List Int) ++ L).length = L.length := rfl
  have ha2 : (([] : List Int) ++ K).length = K.length := rfl
  have ha3 : (([] : List Int) ++ L ++ [(77 : Int)]).length = L.length + 1 := by simp
  have ha4 : (([] : List Int) ++ K ++ [(78 : Int)]).length = K.length + 1 := by simp
  have hl1 : (L ++ [(77 : Int)]).length = L.length + 1 := by simp
  have hl2 : (K ++ [(78 : Int)]).length = K.length + 1 := by simp
  have hg1 : (L ++ [(77 : Int)])[(L.map (Abs.V.int .i64)).length]? = some 77 := by rw [hml]; simp
  have hg2 : (K ++ [(78 : Int)])[(K.map (Abs.V.int .i64)).length]? = some 78 := by rw [hmk]; simp
  have s1 : ACalls Tryd.prog 10 [conX g1 P (cutX L 77), conI g1 P L] (.bool true) := by rw [cutX, tailV]; exact same_t
  have s2 : ACalls Tryd.prog 10 [conX g2 Q (cutX K 78), conI g2 Q K] (.bool true) := by rw [cutX, tailV]; exact same_t
  have cw : ACalls Tryd.prog 7 [conX g1 P (cutX L 77)] (.tup [strT (ConZ.writeC g1 P L).1, .int .i64 ((ConZ.writeC g1 P L).2 : Int)]) := by rw [cutX, tailV]; exact ConZ.write_v (g := g1) (P := P) (L := L)
  generalize ConZ.writeC g1 P L = wr at *
  have b1 := ConN.gbegun_v
  have b2 := ConL.begun_v
  have cm := hand2 cm
  have cj := hand2 cj
  have cd := hand1 cd
  have hb0 : (toI B1).length = B1.length := List.length_map _
  have hb1 : (toI B2).length = B2.length := List.length_map _
  have hb2 : (toI B3).length = B3.length := List.length_map _
  refine fun5 tb_ok Tryd.func3 rfl Tryd.ntmps3 Tryd.results3 rfl fun N => ?_
  apply awp_share (s1 := ⟨[(2, .int .i64 p), (3, .int .i64 w), (4, .int .i64 n), (5, .fp (Abs.V.cells (conI g1 P L)) 0), (6, .fp (Abs.V.cells (conI g2 Q K)) 0), (11, .loc 0 0 0), (12, .loc 1 0 0)], [(0, some (.els TN 12 [conX g1 P (ownX 4 L)])), (1, some (.els TN 12 [conX g2 Q (ownX 7 K)])), (4, some (rX L 77)), (7, some (rX K 78))], 8, 145⟩) True
  case main =>
    intro H
    have H := H trivial
    repeat' (first | ((with_reducible refine awp_cutRH (id := 4) H ?_); exact x_le) | ((with_reducible refine awp_cutRS (id := 4) H ?_); exact x_le) | refine zt ?_ | (refine isR ?_; first | refine zo ?_ | refine x_mk0 (Abs.V.int .i64) ((L.map (Abs.V.int .i64)).length + 1) tb_ok ?_ | refine x_mk0 (Abs.V.int .i64) ((K.map (Abs.V.int .i64)).length + 1) tb_ok ?_ | refine x_appK (Abs.V.int .i64) (L := []) (K' := L) tb_ok ?_ | refine x_appK (Abs.V.int .i64) (L := []) (K' := K) tb_ok ?_ | refine x_app (Abs.V.int .i64) (a1 := (77 : Int)) tb_ok ?_ | refine x_app (Abs.V.int .i64) (a1 := (78 : Int)) tb_ok ?_ | refine x_slOt tb_ok ?_ | refine x_bs tb_ok ?_ | refine zA ?_ | refine zL ?_ | refine zc1 ?_ | refine zc5 ?_ | refine zI ?_ | refine zS ?_ | (refine zs1 ?_ ?_ <;> intro hc) | (refine zs5 ?_ ?_ <;> intro hc)) | refine awp_split rfl (fun hb => ?_) (fun hb => ?_) | refine zr ?_ | exact x_le)
  case k =>
    intro _
    repeat' (first | refine zt ?_ | (refine isR ?_; first | refine zo ?_ | refine x_mK [4,7] [8] [4,7] (cm _) ?_ | refine x_mK0 [4,7] [8] [4,7] (cm _) ?_ | refine x_mK [4,7] [8] [4,7] (cm) ?_ | refine x_mK0 [4,7] [8] [4,7] (cm) ?_ | refine x_mK [4,7] [10] [4,7] (cj _) ?_ | refine x_mK0 [4,7] [10] [4,7] (cj _) ?_ | refine x_mK [4,7] [10] [4,7] (cj) ?_ | refine x_mK0 [4,7] [10] [4,7] (cj) ?_ | refine x_mK [4] [12] [4] (cd _) ?_ | refine x_mK0 [4] [12] [4] (cd _) ?_ | refine x_mK [4] [12] [4] (cd) ?_ | refine x_mK0 [4] [12] [4] (cd) ?_ | refine x_callz [4] (cw _) ?_ (hok := (by repeat' first | exact trivial | exact rfl | exact tail_ok | exact tail_no | exact frz_map (fun _ => rfl) | constructor)) | refine zk b1 ?_ | refine zk b2 ?_ | refine x_bsO 91 tb_ok ?_ | refine x_bs tb_ok ?_ | refine zA ?_ | refine zL ?_ | refine zc1 ?_ | refine zc5 ?_ | refine zI ?_ | refine zS ?_ | (refine zs1 ?_ ?_ <;> intro hc) | (refine zs5 ?_ ?_ <;> intro hc)) | refine awp_split rfl (fun hb => ?_) (fun hb => ?_) | refine zr ?_ | exact x_le)
    refine awp_rounds 4 ?_
    repeat' (first | with_reducible refine rounds_on ?_ | refine zt ?_ | (refine isR ?_; first | refine zo ?_ | refine x_callz [4] (s1 _) ?_ (hok := (by repeat' first | exact trivial | exact rfl | exact tail_ok | exact tail_no | exact frz_map (fun _ => rfl) | constructor)) | refine x_callz [7] (s2 _) ?_ (hok := (by repeat' first | exact trivial | exact rfl | exact tail_ok | exact tail_no | exact frz_map (fun _ => rfl) | constructor)) | refine x_slOt tb_ok ?_ | refine x_ldI (Abs.V.int .i64) (L.map (Abs.V.int .i64)).length tb_ok ?_ | refine x_ldI (Abs.V.int .i64) (K.map (Abs.V.int .i64)).length tb_ok ?_ | refine x_bs tb_ok ?_ | refine zA ?_ | refine zL ?_ | refine zc1 ?_ | refine zc5 ?_ | refine zI ?_ | refine zS ?_ | (refine zs1 ?_ ?_ <;> intro hc) | (refine zs5 ?_ ?_ <;> intro hc)) | refine awp_split rfl (fun hb => ?_) (fun hb => ?_) | refine zr ?_ | exact x_le)
    refine awp_forN (fun k => ⟨[(5, .fp (Abs.V.cells (conI g1 P L)) 0), (6, .fp (Abs.V.cells (conI g2 Q K)) 0), (11, .loc 0 0 0), (12, .loc 1 0 0), (20, .own 8 0 B1.length), (21, .int .i64 (k : Int)), (91, .own 14 0 3), (92, .int .i64 3), (93, .int .i64 0)], [(0, some (.els TN 12 [conX g1 P (ownX 4 L)])), (1, some (.els TN 12 [conX g2 Q (ownX 7 K)])), (4, some (rX L 77)), (7, some (rX K 78)), (8, some (.els TI 1 ((neg k (toI B1)).map (Abs.V.int .i64)))), (10, some (.els TI 1 ((toI B2).map (Abs.V.int .i64)))), (12, some (.els TI 1 ((toI B3).map (Abs.V.int .i64)))), (14, some (.els 23 1 [.own 8 0 B1.length, .own 10 0 B2.length, .own 12 0 B3.length]))], 15, 145⟩) (fun k => k ≤ B1.length) B1.length 0 (by dsimp only; rw [neg_zero]; exact (by exact x_le)) (Nat.zero_le _) ?_
    intro k hk
    by_cases hk2 : k < B1.length
    · have hx := neg_at (k := k) (B := toI B1) (by omega)
      generalize (toI B1)[k]'(by omega) = x at hx
      repeat' (first | refine zt ?_ | (refine isR ?_; first | refine zo ?_ | refine x_stI (Abs.V.int .i64) (a1 := (-5 : Int)) k tb_ok ?_ | refine x_bs tb_ok ?_ | refine zA ?_ | refine zL ?_ | refine zc1 ?_ | refine zc5 ?_ | refine zI ?_ | refine zS ?_ | (refine zs1 ?_ ?_ <;> intro hc) | (refine zs5 ?_ ?_ <;> intro hc)) | refine awp_split rfl (fun hb => ?_) (fun hb => ?_) | refine zr ?_ | exact x_le)
      refine ⟨by omega, hk2, ?_⟩
      dsimp only
      rw [← neg_set]
      exact (by exact x_len [0, 1, 2, 3, 4, 5, 6, 7, 8, 9, 10, 11, 12, 13, 14])
    obtain rfl : k = B1.length := by omega
    clear hk hk2
    repeat' (first | with_reducible refine rounds_on ?_ | refine zt ?_ | (refine isR ?_; first | refine zo ?_ | refine x_callz [4] (s1 _) ?_ (hok := (by repeat' first | exact trivial | exact rfl | exact tail_ok | exact tail_no | exact frz_map (fun _ => rfl) | constructor)) | refine x_callz [7] (s2 _) ?_ (hok := (by repeat' first | exact trivial | exact rfl | exact tail_ok | exact tail_no | exact frz_map (fun _ => rfl) | constructor)) | refine x_slOt tb_ok ?_ | refine x_ldI (Abs.V.int .i64) (L.map (Abs.V.int .i64)).length tb_ok ?_ | refine x_ldI (Abs.V.int .i64) (K.map (Abs.V.int .i64)).length tb_ok ?_ | refine x_bs tb_ok ?_ | refine zA ?_ | refine zL ?_ | refine zc1 ?_ | refine zc5 ?_ | refine zI ?_ | refine zS ?_ | (refine zs1 ?_ ?_ <;> intro hc) | (refine zs5 ?_ ?_ <;> intro hc)) | refine awp_split rfl (fun hb => ?_) (fun hb => ?_) | refine zr ?_ | exact x_le)
    refine awp_forN (fun k => ⟨[(5, .fp (Abs.V.cells (conI g1 P L)) 0), (6, .fp (Abs.V.cells (conI g2 Q K)) 0), (11, .loc 0 0 0), (12, .loc 1 0 0), (20, .own 10 0 B2.length), (21, .int .i64 (k : Int)), (91, .own 14 0 3), (92, .int .i64 3), (93, .int .i64 1)], [(0, some (.els TN 12 [conX g1 P (ownX 4 L)])), (1, some (.els TN 12 [conX g2 Q (ownX 7 K)])), (4, some (rX L 77)), (7, some (rX K 78)), (8, some (.els TI 1 ((neg B1.length (toI B1)).map (Abs.V.int .i64)))), (10, some (.els TI 1 ((neg k (toI B2)).map (Abs.V.int .i64)))), (12, some (.els TI 1 ((toI B3).map (Abs.V.int .i64)))), (14, some (.els 23 1 [.own 8 0 B1.length, .own 10 0 B2.length, .own 12 0 B3.length]))], 15, 145⟩) (fun k => k ≤ B2.length) B2.length 0 (by dsimp only; rw [neg_zero]; exact (by exact x_le)) (Nat.zero_le _) ?_
    intro k hk
    by_cases hk2 : k < B2.length
    · have hx := neg_at (k := k) (B := toI B2) (by omega)
      generalize (toI B2)[k]'(by omega) = x at hx
      repeat' (first | refine zt ?_ | (refine isR ?_; first | refine zo ?_ | refine x_stI (Abs.V.int .i64) (a1 := (-5 : Int)) k tb_ok ?_ | refine x_bs tb_ok ?_ | refine zA ?_ | refine zL ?_ | refine zc1 ?_ | refine zc5 ?_ | refine zI ?_ | refine zS ?_ | (refine zs1 ?_ ?_ <;> intro hc) | (refine zs5 ?_ ?_ <;> intro hc)) | refine awp_split rfl (fun hb => ?_) (fun hb => ?_) | refine zr ?_ | exact x_le)
      refine ⟨by omega, hk2, ?_⟩
      dsimp only
      rw [← neg_set]
      exact (by exact x_len [0, 1, 2, 3, 4, 5, 6, 7, 8, 9, 10, 11, 12, 13, 14])
    obtain rfl : k = B2.length := by omega
    clear hk hk2
    repeat' (first | with_reducible refine rounds_on ?_ | refine zt ?_ | (refine isR ?_; first | refine zo ?_ | refine x_callz [4] (s1 _) ?_ (hok := (by repeat' first | exact trivial | exact rfl | exact tail_ok | exact tail_no | exact frz_map (fun _ => rfl) | constructor)) | refine x_callz [7] (s2 _) ?_ (hok := (by repeat' first | exact trivial | exact rfl | exact tail_ok | exact tail_no | exact frz_map (fun _ => rfl) | constructor)) | refine x_slOt tb_ok ?_ | refine x_ldI (Abs.V.int .i64) (L.map (Abs.V.int .i64)).length tb_ok ?_ | refine x_ldI (Abs.V.int .i64) (K.map (Abs.V.int .i64)).length tb_ok ?_ | refine x_bs tb_ok ?_ | refine zA ?_ | refine zL ?_ | refine zc1 ?_ | refine zc5 ?_ | refine zI ?_ | refine zS ?_ | (refine zs1 ?_ ?_ <;> intro hc) | (refine zs5 ?_ ?_ <;> intro hc)) | refine awp_split rfl (fun hb => ?_) (fun hb => ?_) | refine zr ?_ | exact x_le)
    refine awp_forN (fun k => ⟨[(5, .fp (Abs.V.cells (conI g1 P L)) 0), (6, .fp (Abs.V.cells (conI g2 Q K)) 0), (11, .loc 0 0 0), (12, .loc 1 0 0), (20, .own 12 0 B3.length), (21, .int .i64 (k : Int)), (91, .own 14 0 3), (92, .int .i64 3), (93, .int .i64 2)], [(0, some (.els TN 12 [conX g1 P (ownX 4 L)])), (1, some (.els TN 12 [conX g2 Q (ownX 7 K)])), (4, some (rX L 77)), (7, some (rX K 78)), (8, some (.els TI 1 ((neg B1.length (toI B1)).map (Abs.V.int .i64)))), (10, some (.els TI 1 ((neg B2.length (toI B2)).map (Abs.V.int .i64)))), (12, some (.els TI 1 ((neg k (toI B3)).map (Abs.V.int .i64)))), (14, some (.els 23 1 [.own 8 0 B1.length, .own 10 0 B2.length, .own 12 0 B3.length]))], 15, 145⟩) (fun k => k ≤ B3.length) B3.length 0 (by dsimp only; rw [neg_zero]; exact (by exact x_le)) (Nat.zero_le _) ?_
    intro k hk
    by_cases hk2 : k < B3.length
    · have hx := neg_at (k := k) (B := toI B3) (by omega)
      generalize (toI B3)[k]'(by omega) = x at hx
      repeat' (first | refine zt ?_ | (refine isR ?_; first | refine zo ?_ | refine x_stI (Abs.V.int .i64) (a1 := (-5 : Int)) k tb_ok ?_ | refine x_bs tb_ok ?_ | refine zA ?_ | refine zL ?_ | refine zc1 ?_ | refine zc5 ?_ | refine zI ?_ | refine zS ?_ | (refine zs1 ?_ ?_ <;> intro hc) | (refine zs5 ?_ ?_ <;> intro hc)) | refine awp_split rfl (fun hb => ?_) (fun hb => ?_) | refine zr ?_ | exact x_le)
      refine ⟨by omega, hk2, ?_⟩
      dsimp only
      rw [← neg_set]
      exact (by exact x_len [0, 1, 2, 3, 4, 5, 6, 7, 8, 9, 10, 11, 12, 13, 14])
    obtain rfl : k = B3.length := by omega
    clear hk hk2
    repeat' (first | with_reducible refine rounds_on ?_ | refine zt ?_ | (refine isR ?_; first | refine zo ?_ | refine x_callz [4] (s1 _) ?_ (hok := (by repeat' first | exact trivial | exact rfl | exact tail_ok | exact tail_no | exact frz_map (fun _ => rfl) | constructor)) | refine x_callz [7] (s2 _) ?_ (hok := (by repeat' first | exact trivial | exact rfl | exact tail_ok | exact tail_no | exact frz_map (fun _ => rfl) | constructor)) | refine x_slOt tb_ok ?_ | refine x_ldI (Abs.V.int .i64) (L.map (Abs.V.int .i64)).length tb_ok ?_ | refine x_ldI (Abs.V.int .i64) (K.map (Abs.V.int .i64)).length tb_ok ?_ | refine x_bs tb_ok ?_ | refine zA ?_ | refine zL ?_ | refine zc1 ?_ | refine zc5 ?_ | refine zI ?_ | refine zS ?_ | (refine zs1 ?_ ?_ <;> intro hc) | (refine zs5 ?_ ?_ <;> intro hc)) | refine awp_split rfl (fun hb => ?_) (fun hb => ?_) | refine zr ?_ | exact x_le)
    all_goals rfl
end Go.Proofs.YtnpokgjehapmjaaDoor.ConTA
end

section
namespace Go.Proofs.YtnpokgjehapmjaaDoor.ConTB
open Go.RowKit Mem Abs Scan BitsP ConP ConQ ConC ConM ConK ConO
set_option maxRecDepth 100000 in
set_option maxHeartbeats 4000000 in
theorem lawB {g1 g2 p w n : Int} {P Q : Nat → Bool} {L K : List Int} (hL : L.length ≤ 17592186043904) (hK : K.length ≤ 17592186043904) {gm gj : Int} {Pm Pj : Nat → Bool} {B1 B2 : List Nat} (cm : MCalls Tryd.prog 4 [conI g1 P L, conI g2 Q K] [] (.tup [conX gm Pm (.own 0 0 B1.length), .int .i64 0]) [some (rI B1)]) (cj : MCalls Tryd.prog 5 [conI g1 P L, conI g2 Q K] [] (.tup [conX gj Pj (.own 0 0 B2.length), .int .i64 0]) [some (rI B2)]) (hB1 : B1.length ≤ 1000) (hB2 : B2.length ≤ 1000) {ed : Int} (cd : ACalls Tryd.prog 6 [conI g1 P L, .int .i64 p, .int .i64 w, .int .i64 n] (.tup [noC, .int .i64 ed])) : ACalls Tryd.prog 3 [conI g1 P L, conI g2 Q K, .int .i64 p, .int .i64 w, .int .i64 n] (.bool true) := by
  have hml : (L.map (Abs.V.int .i64)).length = L.length := List.length_map _
  have hmk : (K.map (Abs.V.int .i64)).length = K.length := List.length_map _
  have hq1 : (((L.map (Abs.V.int .i64)).length : Nat) : Int) + 1 = (((L.map (Abs.V.int .i64)).length + 1 : Nat) : Int) := by omega
  have hq2 : (((K.map (Abs.V.int .i64)).length : Nat) : Int) + 1 = (((K.map (Abs.V.int .i64)).length + 1 : Nat) : Int) := by omega
  have ha1 : (([] : List Int) ++ L).length = L.length := rfl
  have ha2 : (([] : List Int) ++ K).length = K.length := rfl
  have ha3 : (([] : List Int) ++ L ++ [(77 : Int)]).length = L.length + 1 := by simp
  have ha4 : (([] : List Int) ++ K ++ [(78 : Int)]).length = K.length + 1 := by simp
  have hl1 : (L ++ [(77 : Int)]).length = L.length + 1 := by simp
  have hl2 : (K ++ [(78 : Int)]).length = K.length + 1 := by simp
  have hg1 : (L ++ [(77 : Int)])[(L.map (Abs.V.int .i64)).length]? = some 77 := by rw [hml]; simp
  have hg2 : (K ++ [(78 : Int)])[(K.map (Abs.V.int .i64)).length]? = some 78 := by rw [hmk]; simp
  have s1 : ACalls Tryd.prog 10 [conX g1 P (cutX L 77), conI g1 P L] (.bool true) := by rw [cutX, tailV]; exact same_t
  have s2 : ACalls Tryd.prog 10 [conX g2 Q (cutX K 78), conI g2 Q K] (.bool true) := by rw [cutX, tailV]; exact same_t
  have cw : ACalls Tryd.prog 7 [conX g1 P (cutX L 77)] (.tup [strT (ConZ.writeC g1 P L).1, .int .i64 ((ConZ.writeC g1 P L).2 : Int)]) := by rw [cutX, tailV]; exact ConZ.write_v (g := g1) (P := P) (L := L)
  generalize ConZ.writeC g1 P L = wr at *
  have b1 := ConN.gbegun_v
  have b2 := ConL.begun_v
  have cm := hand2 cm
  have cj := hand2 cj
  have cd : ACalls Tryd.prog 6 [conX g1 P (cutX L 77), .int .i64 p, .int .i64 w, .int .i64 n] (.tup [noC, .int .i64 ed]) := by rw [cutX, tailV]; exact cd
  have hb0 : (toI B1).length = B1.length := List.length_map _
  have hb1 : (toI B2).length = B2.length := List.length_map _
  refine fun5 tb_ok Tryd.func3 rfl Tryd.ntmps3 Tryd.results3 rfl fun N => ?_
  apply awp_share (s1 := ⟨[(2, .int .i64 p), (3, .int .i64 w), (4, .int .i64 n), (5, .fp (Abs.V.cells (conI g1 P L)) 0), (6, .fp (Abs.V.cells (conI g2 Q K)) 0), (11, .loc 0 0 0), (12, .loc 1 0 0)], [(0, some (.els TN 12 [conX g1 P (ownX 4 L)])), (1, some (.els TN 12 [conX g2 Q (ownX 7 K)])), (4, some (rX L 77)), (7, some (rX K 78))], 8, 145⟩) True
  case main =>
    intro H
    have H := H trivial
    repeat' (first | ((with_reducible refine awp_cutRH (id := 4) H ?_); exact x_le) | ((with_reducible refine awp_cutRS (id := 4) H ?_); exact x_le) | refine zt ?_ | (refine isR ?_; first | refine zo ?_ | refine x_mk0 (Abs.V.int .i64) ((L.map (Abs.V.int .i64)).length + 1) tb_ok ?_ | refine x_mk0 (Abs.V.int .i64) ((K.map (Abs.V.int .i64)).length + 1) tb_ok ?_ | refine x_appK (Abs.V.int .i64) (L := []) (K' := L) tb_ok ?_ | refine x_appK (Abs.V.int .i64) (L := []) (K' := K) tb_ok ?_ | refine x_app (Abs.V.int .i64) (a1 := (77 : Int)) tb_ok ?_ | refine x_app (Abs.V.int .i64) (a1 := (78 : Int)) tb_ok ?_ | refine x_slOt tb_ok ?_ | refine x_bs tb_ok ?_ | refine zA ?_ | refine zL ?_ | refine zc1 ?_ | refine zc5 ?_ | refine zI ?_ | refine zS ?_ | (refine zs1 ?_ ?_ <;> intro hc) | (refine zs5 ?_ ?_ <;> intro hc)) | refine awp_split rfl (fun hb => ?_) (fun hb => ?_) | refine zr ?_ | exact x_le)
  case k =>
    intro _
    repeat' (first | refine zt ?_ | (refine isR ?_; first | refine zo ?_ | refine x_mK [4,7] [8] [4,7] (cm _) ?_ | refine x_mK0 [4,7] [8] [4,7] (cm _) ?_ | refine x_mK [4,7] [8] [4,7] (cm) ?_ | refine x_mK0 [4,7] [8] [4,7] (cm) ?_ | refine x_mK [4,7] [10] [4,7] (cj _) ?_ | refine x_mK0 [4,7] [10] [4,7] (cj _) ?_ | refine x_mK [4,7] [10] [4,7] (cj) ?_ | refine x_mK0 [4,7] [10] [4,7] (cj) ?_ | refine x_callz [4] (cd _) ?_ (hok := (by repeat' first | exact trivial | exact rfl | exact tail_ok | exact tail_no | exact frz_map (fun _ => rfl) | constructor)) | refine x_callz [4] (cw _) ?_ (hok := (by repeat' first | exact trivial | exact rfl | exact tail_ok | exact tail_no | exact frz_map (fun _ => rfl) | constructor)) | refine zk b1 ?_ | refine zk b2 ?_ | refine x_bsO 91 tb_ok ?_ | refine x_bs tb_ok ?_ | refine zA ?_ | refine zL ?_ | refine zc1 ?_ | refine zc5 ?_ | refine zI ?_ | refine zS ?_ | (refine zs1 ?_ ?_ <;> intro hc) | (refine zs5 ?_ ?_ <;> intro hc)) | refine awp_split rfl (fun hb => ?_) (fun hb => ?_) | refine zr ?_ | exact x_le)
    refine awp_rounds 4 ?_
    repeat' (first | with_reducible refine rounds_on ?_ | refine zt ?_ | (refine isR ?_; first | refine zo ?_ | refine x_callz [4] (s1 _) ?_ (hok := (by repeat' first | exact trivial | exact rfl | exact tail_ok | exact tail_no | exact frz_map (fun _ => rfl) | constructor)) | refine x_callz [7] (s2 _) ?_ (hok := (by repeat' first | exact trivial | exact rfl | exact tail_ok | exact tail_no | exact frz_map (fun _ => rfl) | constructor)) | refine x_slOt tb_ok ?_ | refine x_ldI (Abs.V.int .i64) (L.map (Abs.V.int .i64)).length tb_ok ?_ | refine x_ldI (Abs.V.int .i64) (K.map (Abs.V.int .i64)).length tb_ok ?_ | refine x_bs tb_ok ?_ | refine zA ?_ | refine zL ?_ | refine zc1 ?_ | refine zc5 ?_ | refine zI ?_ | refine zS ?_ | (refine zs1 ?_ ?_ <;> intro hc) | (refine zs5 ?_ ?_ <;> intro hc)) | refine awp_split rfl (fun hb => ?_) (fun hb => ?_) | refine zr ?_ | exact x_le)
    refine awp_forN (fun k => ⟨[(5, .fp (Abs.V.cells (conI g1 P L)) 0), (6, .fp (Abs.V.cells (conI g2 Q K)) 0), (11, .loc 0 0 0), (12, .loc 1 0 0), (20, .own 8 0 B1.length), (21, .int .i64 (k : Int)), (91, .own 13 0 3), (92, .int .i64 3), (93, .int .i64 0)], [(0, some (.els TN 12 [conX g1 P (ownX 4 L)])), (1, some (.els TN 12 [conX g2 Q (ownX 7 K)])), (4, some (rX L 77)), (7, some (rX K 78)), (8, some (.els TI 1 ((neg k (toI B1)).map (Abs.V.int .i64)))), (10, some (.els TI 1 ((toI B2).map (Abs.V.int .i64)))), (13, some (.els 23 1 [.own 8 0 B1.length, .own 10 0 B2.length, .nils]))], 14, 145⟩) (fun k => k ≤ B1.length) B1.length 0 (by dsimp only; rw [neg_zero]; exact (by exact x_le)) (Nat.zero_le _) ?_
    intro k hk
    by_cases hk2 : k < B1.length
    · have hx := neg_at (k := k) (B := toI B1) (by omega)
      generalize (toI B1)[k]'(by omega) = x at hx
      repeat' (first | refine zt ?_ | (refine isR ?_; first | refine zo ?_ | refine x_stI (Abs.V.int .i64) (a1 := (-5 : Int)) k tb_ok ?_ | refine x_bs tb_ok ?_ | refine zA ?_ | refine zL ?_ | refine zc1 ?_ | refine zc5 ?_ | refine zI ?_ | refine zS ?_ | (refine zs1 ?_ ?_ <;> intro hc) | (refine zs5 ?_ ?_ <;> intro hc)) | refine awp_split rfl (fun hb => ?_) (fun hb => ?_) | refine zr ?_ | exact x_le)
      refine ⟨by omega, hk2, ?_⟩
      dsimp only
      rw [← neg_set]
      exact (by exact x_len [0, 1, 2, 3, 4, 5, 6, 7, 8, 9, 10, 11, 12, 13])
    obtain rfl : k = B1.length := by omega
    clear hk hk2
    repeat' (first | with_reducible refine rounds_on ?_ | refine zt ?_ | (refine isR ?_; first | refine zo ?_ | refine x_callz [4] (s1 _) ?_ (hok := (by repeat' first | exact trivial | exact rfl | exact tail_ok | exact tail_no | exact frz_map (fun _ => rfl) | constructor)) | refine x_callz [7] (s2 _) ?_ (hok := (by repeat' first | exact trivial | exact rfl | exact tail_ok | exact tail_no | exact frz_map (fun _ => rfl) | constructor)) | refine x_slOt tb_ok ?_ | refine x_ldI (Abs.V.int .i64) (L.map (Abs.V.int .i64)).length tb_ok ?_ | refine x_ldI (Abs.V.int .i64) (K.map (Abs.V.int .i64)).length tb_ok ?_ | refine x_bs tb_ok ?_ | refine zA ?_ | refine zL ?_ | refine zc1 ?_ | refine zc5 ?_ | refine zI ?_ | refine zS ?_ | (refine zs1 ?_ ?_ <;> intro hc) | (refine zs5 ?_ ?_ <;> intro hc)) | refine awp_split rfl (fun hb => ?_) (fun hb => ?_) | refine zr ?_ | exact x_le)
    refine awp_forN (fun k => ⟨[(5, .fp (Abs.V.cells (conI g1 P L)) 0), (6, .fp (Abs.V.cells (conI g2 Q K)) 0), (11, .loc 0 0 0), (12, .loc 1 0 0), (20, .own 10 0 B2.length), (21, .int .i64 (k : Int)), (91, .own 13 0 3), (92, .int .i64 3), (93, .int .i64 1)], [(0, some (.els TN 12 [conX g1 P (ownX 4 L)])), (1, some (.els TN 12 [conX g2 Q (ownX 7 K)])), (4, some (rX L 77)), (7, some (rX K 78)), (8, some (.els TI 1 ((neg B1.length (toI B1)).map (Abs.V.int .i64)))), (10, some (.els TI 1 ((neg k (toI B2)).map (Abs.V.int .i64)))), (13, some (.els 23 1 [.own 8 0 B1.length, .own 10 0 B2.length, .nils]))], 14, 145⟩) (fun k => k ≤ B2.length) B2.length 0 (by dsimp only; rw [neg_zero]; exact (by exact x_le)) (Nat.zero_le _) ?_
    intro k hk
    by_cases hk2 : k < B2.length
    · have hx := neg_at (k := k) (B := toI B2) (by omega)
      generalize (toI B2)[k]'(by omega) = x at hx
      repeat' (first | refine zt ?_ | (refine isR ?_; first | refine zo ?_ | refine x_stI (Abs.V.int .i64) (a1 := (-5 : Int)) k tb_ok ?_ | refine x_bs tb_ok ?_ | refine zA ?_ | refine zL ?_ | refine zc1 ?_ | refine zc5 ?_ | refine zI ?_ | refine zS ?_ | (refine zs1 ?_ ?_ <;> intro hc) | (refine zs5 ?_ ?_ <;> intro hc)) | refine awp_split rfl (fun hb => ?_) (fun hb => ?_) | refine zr ?_ | exact x_le)
      refine ⟨by omega, hk2, ?_⟩
      dsimp only
      rw [← neg_set]
      exact (by exact x_len [0, 1, 2, 3, 4, 5, 6, 7, 8, 9, 10, 11, 12, 13])
    obtain rfl : k = B2.length := by omega
    clear hk hk2
    repeat' (first | with_reducible refine rounds_on ?_ | refine zt ?_ | (refine isR ?_; first | refine zo ?_ | refine x_callz [4] (s1 _) ?_ (hok := (by repeat' first | exact trivial | exact rfl | exact tail_ok | exact tail_no | exact frz_map (fun _ => rfl) | constructor)) | refine x_callz [7] (s2 _) ?_ (hok := (by repeat' first | exact trivial | exact rfl | exact tail_ok | exact tail_no | exact frz_map (fun _ => rfl) | constructor)) | refine x_slOt tb_ok ?_ | refine x_ldI (Abs.V.int .i64) (L.map (Abs.V.int .i64)).length tb_ok ?_ | refine x_ldI (Abs.V.int .i64) (K.map (Abs.V.int .i64)).length tb_ok ?_ | refine x_bs tb_ok ?_ | refine zA ?_ | refine zL ?_ | refine zc1 ?_ | refine zc5 ?_ | refine zI ?_ | refine zS ?_ | (refine zs1 ?_ ?_ <;> intro hc) | (refine zs5 ?_ ?_ <;> intro hc)) | refine awp_split rfl (fun hb => ?_) (fun hb => ?_) | refine zr ?_ | exact x_le)
    refine awp_rounds 1 ?_
    repeat' (first | with_reducible refine rounds_on ?_ | refine zt ?_ | (refine isR ?_; first | refine zo ?_ | refine x_callz [4] (s1 _) ?_ (hok := (by repeat' first | exact trivial | exact rfl | exact tail_ok | exact tail_no | exact frz_map (fun _ => rfl) | constructor)) | refine x_callz [7] (s2 _) ?_ (hok := (by repeat' first | exact trivial | exact rfl | exact tail_ok | exact tail_no | exact frz_map (fun _ => rfl) | constructor)) | refine x_slOt tb_ok ?_ | refine x_ldI (Abs.V.int .i64) (L.map (Abs.V.int .i64)).length tb_ok ?_ | refine x_ldI (Abs.V.int .i64) (K.map (Abs.V.int .i64)).length tb_ok ?_ | refine x_bs tb_ok ?_ | refine zA ?_ | refine zL ?_ | refine zc1 ?_ | refine zc5 ?_ | refine zI ?_ | refine zS ?_ | (refine zs1 ?_ ?_ <;> intro hc) | (refine zs5 ?_ ?_ <;> intro hc)) | refine awp_split rfl (fun hb => ?_) (fun hb => ?_) | refine zr ?_ | exact x_le)
    all_goals rfl
end Go.Proofs.YtnpokgjehapmjaaDoor.ConTB
end

section
namespace Go.Proofs.YtnpokgjehapmjaaDoor.ConTC
open Go.RowKit Mem Abs Scan BitsP ConP ConQ ConC ConM ConK ConO
set_option maxRecDepth 100000 in
set_option maxHeartbeats 4000000 in
theorem lawC {g1 g2 p w n : Int} {P Q : Nat → Bool} {L K : List Int} (hL : L.length ≤ 17592186043904) (hK : K.length ≤ 17592186043904) {em ej : Int} (cm : ACalls Tryd.prog 4 [conI g1 P L, conI g2 Q K] (.tup [noC, .int .i64 em])) (cj : ACalls Tryd.prog 5 [conI g1 P L, conI g2 Q K] (.tup [noC, .int .i64 ej])) {gd : Int} {Pd : Nat → Bool} {B3 : List Nat} (cd : MCalls Tryd.prog 6 [conI g1 P L, .int .i64 p, .int .i64 w, .int .i64 n] [] (.tup [conX gd Pd (.own 0 0 B3.length), .int .i64 0]) [some (rI B3)]) (hB3 : B3.length ≤ 1000) : ACalls Tryd.prog 3 [conI g1 P L, conI g2 Q K, .int .i64 p, .int .i64 w, .int .i64 n] (.bool true) := by
  have hml : (L.map (Abs.V.int .i64)).length = L.length := List.length_map _
  have hmk : (K.map (Abs.V.int .i64)).length = K.length := List.length_map _
  have hq1 : (((L.map (Abs.V.int .i64)).length : Nat) : Int) + 1 = (((L.map (Abs.V.int .i64)).length + 1 : Nat) : Int) := by omega
  have hq2 : (((K.map (Abs.V.int .i64)).length : Nat) : Int) + 1 = (((K.map (Abs.V.int .i64)).length + 1 : Nat) : Int) := by omega
  have ha1 : (([] : List Int) ++ L).length = L.length := rfl
  have ha2 : (([] : List Int) ++ K).length = K.length := rfl
  have ha3 : (([] : List Int) ++ L ++ [(77 : Int)]).length = L.length + 1 := by simp
  have ha4 : (([] : List Int) ++ K ++ [(78 : Int)]).length = K.length + 1 := by simp
  have hl1 : (L ++ [(77 : Int)]).length = L.length + 1 := by simp
  have hl2 : (K ++ [(78 : Int)]).length = K.length + 1 := by simp
  have hg1 : (L ++ [(77 : Int)])[(L.map (Abs.V.int .i64)).length]? = some 77 := by rw [hml]; simp
  have hg2 : (K ++ [(78 : Int)])[(K.map (Abs.V.int .i64)).length]? = some 78 := by rw [hmk]; simp
  have s1 : ACalls Tryd.prog 10 [conX g1 P (cutX L 77), conI g1 P L] (.bool true) := by rw [cutX, tailV]; exact same_t
  have s2 : ACalls Tryd.prog 10 [conX g2 Q (cutX K 78), conI g2 Q K] (.bool true) := by rw [cutX, tailV]; exact same_t
  have cw : ACalls Tryd.prog 7 [conX g1 P (cutX L 77)] (.tup [strT (ConZ.writeC g1 P L).1, .int .i64 ((ConZ.writeC g1 P L).2 : Int)]) := by rw [cutX, tailV]; exact ConZ.write_v (g := g1) (P := P) (L := L)
  generalize ConZ.writeC g1 P L = wr at *
  have b1 := ConN.gbegun_v
  have b2 := ConL.begun_v
  have cm : ACalls Tryd.prog 4 [conX g1 P (cutX L 77), conX g2 Q (cutX K 78)] (.tup [noC, .int .i64 em]) := by rw [cutX, cutX, tailV, tailV]; exact cm
  have cj : ACalls Tryd.prog 5 [conX g1 P (cutX L 77), conX g2 Q (cutX K 78)] (.tup [noC, .int .i64 ej]) := by rw [cutX, cutX, tailV, tailV]; exact cj
  have cd := hand1 cd
  have hb2 : (toI B3).length = B3.length := List.length_map _
  refine fun5 tb_ok Tryd.func3 rfl Tryd.ntmps3 Tryd.results3 rfl fun N => ?_
  apply awp_share (s1 := ⟨[(2, .int .i64 p), (3, .int .i64 w), (4, .int .i64 n), (5, .fp (Abs.V.cells (conI g1 P L)) 0), (6, .fp (Abs.V.cells (conI g2 Q K)) 0), (11, .loc 0 0 0), (12, .loc 1 0 0)], [(0, some (.els TN 12 [conX g1 P (ownX 4 L)])), (1, some (.els TN 12 [conX g2 Q (ownX 7 K)])), (4, some (rX L 77)), (7, some (rX K 78))], 8, 145⟩) True
  case main =>
    intro H
    have H := H trivial
    repeat' (first | ((with_reducible refine awp_cutRH (id := 4) H ?_); exact x_le) | ((with_reducible refine awp_cutRS (id := 4) H ?_); exact x_le) | refine zt ?_ | (refine isR ?_; first | refine zo ?_ | refine x_mk0 (Abs.V.int .i64) ((L.map (Abs.V.int .i64)).length + 1) tb_ok ?_ | refine x_mk0 (Abs.V.int .i64) ((K.map (Abs.V.int .i64)).length + 1) tb_ok ?_ | refine x_appK (Abs.V.int .i64) (L := []) (K' := L) tb_ok ?_ | refine x_appK (Abs.V.int .i64) (L := []) (K' := K) tb_ok ?_ | refine x_app (Abs.V.int .i64) (a1 := (77 : Int)) tb_ok ?_ | refine x_app (Abs.V.int .i64) (a1 := (78 : Int)) tb_ok ?_ | refine x_slOt tb_ok ?_ | refine x_bs tb_ok ?_ | refine zA ?_ | refine zL ?_ | refine zc1 ?_ | refine zc5 ?_ | refine zI ?_ | refine zS ?_ | (refine zs1 ?_ ?_ <;> intro hc) | (refine zs5 ?_ ?_ <;> intro hc)) | refine awp_split rfl (fun hb => ?_) (fun hb => ?_) | refine zr ?_ | exact x_le)
  case k =>
    intro _
    repeat' (first | refine zt ?_ | (refine isR ?_; first | refine zo ?_ | refine x_callz [4,7] (cm _) ?_ (hok := (by repeat' first | exact trivial | exact rfl | exact tail_ok | exact tail_no | exact frz_map (fun _ => rfl) | constructor)) | refine x_callz [4,7] (cj _) ?_ (hok := (by repeat' first | exact trivial | exact rfl | exact tail_ok | exact tail_no | exact frz_map (fun _ => rfl) | constructor)) | refine x_mK [4] [10] [4] (cd _) ?_ | refine x_mK0 [4] [10] [4] (cd _) ?_ | refine x_mK [4] [10] [4] (cd) ?_ | refine x_mK0 [4] [10] [4] (cd) ?_ | refine x_callz [4] (cw _) ?_ (hok := (by repeat' first | exact trivial | exact rfl | exact tail_ok | exact tail_no | exact frz_map (fun _ => rfl) | constructor)) | refine zk b1 ?_ | refine zk b2 ?_ | refine x_bsO 91 tb_ok ?_ | refine x_bs tb_ok ?_ | refine zA ?_ | refine zL ?_ | refine zc1 ?_ | refine zc5 ?_ | refine zI ?_ | refine zS ?_ | (refine zs1 ?_ ?_ <;> intro hc) | (refine zs5 ?_ ?_ <;> intro hc)) | refine awp_split rfl (fun hb => ?_) (fun hb => ?_) | refine zr ?_ | exact x_le)
    refine awp_rounds 4 ?_
    repeat' (first | with_reducible refine rounds_on ?_ | refine zt ?_ | (refine isR ?_; first | refine zo ?_ | refine x_callz [4] (s1 _) ?_ (hok := (by repeat' first | exact trivial | exact rfl | exact tail_ok | exact tail_no | exact frz_map (fun _ => rfl) | constructor)) | refine x_callz [7] (s2 _) ?_ (hok := (by repeat' first | exact trivial | exact rfl | exact tail_ok | exact tail_no | exact frz_map (fun _ => rfl) | constructor)) | refine x_slOt tb_ok ?_ | refine x_ldI (Abs.V.int .i64) (L.map (Abs.V.int .i64)).length tb_ok ?_ | refine x_ldI (Abs.V.int .i64) (K.map (Abs.V.int .i64)).length tb_ok ?_ | refine x_bs tb_ok ?_ | refine zA ?_ | refine zL ?_ | refine zc1 ?_ | refine zc5 ?_ | refine zI ?_ | refine zS ?_ | (refine zs1 ?_ ?_ <;> intro hc) | (refine zs5 ?_ ?_ <;> intro hc)) | refine awp_split rfl (fun hb => ?_) (fun hb => ?_) | refine zr ?_ | exact x_le)
    refine awp_rounds 1 ?_
    repeat' (first | with_reducible refine rounds_on ?_ | refine zt ?_ | (refine isR ?_; first | refine zo ?_ | refine x_callz [4] (s1 _) ?_ (hok := (by repeat' first | exact trivial | exact rfl | exact tail_ok | exact tail_no | exact frz_map (fun _ => rfl) | constructor)) | refine x_callz [7] (s2 _) ?_ (hok := (by repeat' first | exact trivial | exact rfl | exact tail_ok | exact tail_no | exact frz_map (fun _ => rfl) | constructor)) | refine x_slOt tb_ok ?_ | refine x_ldI (Abs.V.int .i64) (L.map (Abs.V.int .i64)).length tb_ok ?_ | refine x_ldI (Abs.V.int .i64) (K.map (Abs.V.int .i64)).length tb_ok ?_ | refine x_bs tb_ok ?_ | refine zA ?_ | refine zL ?_ | refine zc1 ?_ | refine zc5 ?_ | refine zI ?_ | refine zS ?_ | (refine zs1 ?_ ?_ <;> intro hc) | (refine zs5 ?_ ?_ <;> intro hc)) | refine awp_split rfl (fun hb => ?_) (fun hb => ?_) | refine zr ?_ | exact x_le)
    refine awp_rounds 1 ?_
    repeat' (first | with_reducible refine rounds_on ?_ | refine zt ?_ | (refine isR ?_; first | refine zo ?_ | refine x_callz [4] (s1 _) ?_ (hok := (by repeat' first | exact trivial | exact rfl | exact tail_ok | exact tail_no | exact frz_map (fun _ => rfl) | constructor)) | refine x_callz [7] (s2 _) ?_ (hok := (by repeat' first | exact trivial | exact rfl | exact tail_ok | exact tail_no | exact frz_map (fun _ => rfl) | constructor)) | refine x_slOt tb_ok ?_ | refine x_ldI (Abs.V.int .i64) (L.map (Abs.V.int .i64)).length tb_ok ?_ | refine x_ldI (Abs.V.int .i64) (K.map (Abs.V.int .i64)).length tb_ok ?_ | refine x_bs tb_ok ?_ | refine zA ?_ | refine zL ?_ | refine zc1 ?_ | refine zc5 ?_ | refine zI ?_ | refine zS ?_ | (refine zs1 ?_ ?_ <;> intro hc) | (refine zs5 ?_ ?_ <;> intro hc)) | refine awp_split rfl (fun hb => ?_) (fun hb => ?_) | refine zr ?_ | exact x_le)
    refine awp_forN (fun k => ⟨[(5, .fp (Abs.V.cells (conI g1 P L)) 0), (6, .fp (Abs.V.cells (conI g2 Q K)) 0), (11, .loc 0 0 0), (12, .loc 1 0 0), (20, .own 10 0 B3.length), (21, .int .i64 (k : Int)), (91, .own 12 0 3), (92, .int .i64 3), (93, .int .i64 2)], [(0, some (.els TN 12 [conX g1 P (ownX 4 L)])), (1, some (.els TN 12 [conX g2 Q (ownX 7 K)])), (4, some (rX L 77)), (7, some (rX K 78)), (10, some (.els TI 1 ((neg k (toI B3)).map (Abs.V.int .i64)))), (12, some (.els 23 1 [.nils, .nils, .own 10 0 B3.length]))], 13, 145⟩) (fun k => k ≤ B3.length) B3.length 0 (by dsimp only; rw [neg_zero]; exact (by exact x_le)) (Nat.zero_le _) ?_
    intro k hk
    by_cases hk2 : k < B3.length
    · have hx := neg_at (k := k) (B := toI B3) (by omega)
      generalize (toI B3)[k]'(by omega) = x at hx
      repeat' (first | refine zt ?_ | (refine isR ?_; first | refine zo ?_ | refine x_stI (Abs.V.int .i64) (a1 := (-5 : Int)) k tb_ok ?_ | refine x_bs tb_ok ?_ | refine zA ?_ | refine zL ?_ | refine zc1 ?_ | refine zc5 ?_ | refine zI ?_ | refine zS ?_ | (refine zs1 ?_ ?_ <;> intro hc) | (refine zs5 ?_ ?_ <;> intro hc)) | refine awp_split rfl (fun hb => ?_) (fun hb => ?_) | refine zr ?_ | exact x_le)
      refine ⟨by omega, hk2, ?_⟩
      dsimp only
      rw [← neg_set]
      exact (by exact x_len [0, 1, 2, 3, 4, 5, 6, 7, 8, 9, 10, 11, 12])
    obtain rfl : k = B3.length := by omega
    clear hk hk2
    repeat' (first | with_reducible refine rounds_on ?_ | refine zt ?_ | (refine isR ?_; first | refine zo ?_ | refine x_callz [4] (s1 _) ?_ (hok := (by repeat' first | exact trivial | exact rfl | exact tail_ok | exact tail_no | exact frz_map (fun _ => rfl) | constructor)) | refine x_callz [7] (s2 _) ?_ (hok := (by repeat' first | exact trivial | exact rfl | exact tail_ok | exact tail_no | exact frz_map (fun _ => rfl) | constructor)) | refine x_slOt tb_ok ?_ | refine x_ldI (Abs.V.int .i64) (L.map (Abs.V.int .i64)).length tb_ok ?_ | refine x_ldI (Abs.V.int .i64) (K.map (Abs.V.int .i64)).length tb_ok ?_ | refine x_bs tb_ok ?_ | refine zA ?_ | refine zL ?_ | refine zc1 ?_ | refine zc5 ?_ | refine zI ?_ | refine zS ?_ | (refine zs1 ?_ ?_ <;> intro hc) | (refine zs5 ?_ ?_ <;> intro hc)) | refine awp_split rfl (fun hb => ?_) (fun hb => ?_) | refine zr ?_ | exact x_le)
    all_goals rfl
end Go.Proofs.YtnpokgjehapmjaaDoor.ConTC
end
