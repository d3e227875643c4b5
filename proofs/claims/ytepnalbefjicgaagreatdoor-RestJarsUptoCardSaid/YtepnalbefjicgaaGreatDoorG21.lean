/- Texts of the proof, joined: LineC, Give, LineD, Hand, RjL, RjB, RjT. -/
import Derived.Test.YtepnalbefjicgaaGreatDoorG10
import Derived.Test.YtepnalbefjicgaaGreatDoorG20
import Derived.Test.YtepnalbefjicgaaGreatDoorG12
section
namespace Go.Proofs.YtepnalbefjicgaaGreatDoor.LineC
open Go.RowKit Mem Abs TreeW WordS PathT SortP SortW SortM SortN LineA LineP LineB Bld

theorem take_on {L : List Cookie} {k : Nat} {c : Cookie} (h : L[k]? = some c) : lineT (L.take (k + 1)) = if k = 0 then ckT c else (lineT (L.take k) ++ [59, 32]) ++ ckT c := by
  obtain ⟨hk, rfl⟩ := List.getElem?_eq_some_iff.1 h
  rw [List.take_succ_eq_append_getElem hk, lineT_snoc]
  by_cases h0 : k = 0
  · subst h0; simp
  · rw [if_neg h0, if_neg (by intro e; have := congrArg List.length e; rw [List.length_take, List.length_nil] at this; omega)]
theorem take_small {L : List Cookie} (h : SmallC L) (k : Nat) : (lineT (L.take k)).length ≤ 2199026401280 := by
  have h1 := lineT_len (L := L.take k) fun c hc => h.2 c (List.mem_of_mem_take hc)
  have h2 : (L.take k).length ≤ 1048576 := by have := h.1; simp; omega
  have h3 : (L.take k).length * 2097155 ≤ 1048576 * 2097155 := Nat.mul_le_mul_right _ h2
  omega
/-- What the writer's loop stands on. -/
def stW (L : List Cookie) : Nat → S
  | 0 => ⟨[(3, .loc 0 0 0), (6, .fro (L.map Cookie.v)), (7, .int .i64 (L.map Cookie.v).length), (8, .int .i64 ((0 : Nat) : Int))], [(0, some fresh)], 1, 25⟩
  | k + 1 => ⟨[(3, .loc 0 0 0), (6, .fro (L.map Cookie.v)), (7, .int .i64 (L.map Cookie.v).length), (8, .int .i64 ((k + 1 : Nat) : Int))], [(0, some (used 0 1 (lineT (L.take (k + 1))))), (1, some (bytesB (lineT (L.take (k + 1)))))], 2, 25⟩
set_option maxRecDepth 100000 in
set_option maxHeartbeats 4000000 in
theorem write_v {L : List Cookie} (hs : SmallC L) : ACalls Tryz.prog 41 [.fro (L.map Cookie.v)] (strT (lineT L)) := by
  have hx : ((L.map Cookie.v).length : Int) = (L.length : Int) := by simp
  have hsz := hs.1
  have hsm := take_small hs
  have hall := hs.2
  have hend : lineT (L.take L.length) = lineT L := by rw [List.take_length]
  have hne : ∀ k, k < L.length → lineT (L.take (k + 1)) ≠ [] := fun k hk => lineT_ne (by intro e; have := congrArg List.length e; rw [List.length_take, List.length_nil] at this; omega)
  have hon := fun k c => take_on (L := L) (k := k) (c := c)
  have hz : lineT (L.take 0) = [] := by simp [lineT]
  rw [← hend]
  have hst : ∀ k, stW L (k + 1) = ⟨[(3, .loc 0 0 0), (6, .fro (L.map Cookie.v)), (7, .int .i64 (L.map Cookie.v).length), (8, .int .i64 ((k + 1 : Nat) : Int))], [(0, some (used 0 1 (lineT (L.take (k + 1))))), (1, some (bytesB (lineT (L.take (k + 1)))))], 2, 25⟩ := fun _ => rfl
  have hst0 : stW L 0 = ⟨[(3, .loc 0 0 0), (6, .fro (L.map Cookie.v)), (7, .int .i64 (L.map Cookie.v).length), (8, .int .i64 ((0 : Nat) : Int))], [(0, some fresh)], 1, 25⟩ := rfl
  clear hs
  generalize hacc : (fun k => lineT (L.take k)) = acc at *
  have ha : ∀ k, lineT (L.take k) = acc k := fun k => by rw [← hacc]
  simp only [ha] at *
  generalize stW L = st at *
  refine fun1 tb_ok Tryz.func41 rfl Tryz.ntmps41 Tryz.results41 rfl fun N => ?_
  repeat' (first | refine zt ?_ | (refine isR ?_; first | refine x_far [3] tb_ok rfl ?_ | refine zn ?_ | refine zA ?_ | refine zL ?_ | refine zc1 ?_ | refine zc3 ?_ | refine zI ?_ | (refine zs1 ?_ ?_ <;> intro hc) | (refine zs3 ?_ ?_ <;> intro hc)) | refine awp_split rfl (fun hb => ?_) (fun hb => ?_) | refine zr ?_ | exact x_le)
  refine awp_forN st (fun k => k ≤ L.length) L.length 0 (by rw [hst0]; exact (by exact x_le)) (Nat.zero_le _) ?_
  intro k hk
  rcases k with _ | k
  · rw [hst0, hst 0]
    by_cases hk2 : 0 < L.length
    · have e1 : (L.map Cookie.v)[0]? = some (L[0]).v := by simp [hk2]
      have e2 : L[0]? = some L[0] := by simp [hk2]
      have e3 := hon 0 L[0] e2
      rw [if_pos rfl] at e3
      have s4 := hall L[0] (List.getElem_mem hk2)
      rw [e3]
      generalize L[0] = c at *
      obtain ⟨c1, c2, c3, c4, c5, c6, c7, c8, c9, c10, c11, c12, c13⟩ := c
      unfold ckT
      dsimp only at *
      have w0 := write0 (q := (c1 ++ [61]) ++ c2) (by simp; omega)
      repeat' (first | refine zt ?_ | (refine isR ?_; first | refine zo ?_ | refine x_m [0] [2] (w0 _) ?_ | refine x_m0 [0] [2] (w0 _) ?_ | refine x_m [0] [2] (w0) ?_ | refine x_m0 [0] [2] (w0) ?_ | refine zA ?_ | refine zL ?_ | refine zc1 ?_ | refine zc3 ?_ | refine zI ?_ | (refine zs1 ?_ ?_ <;> intro hc) | (refine zs3 ?_ ?_ <;> intro hc)) | refine awp_split rfl (fun hb => ?_) (fun hb => ?_) | refine zr ?_ | exact x_le)
      refine ⟨by omega, hk2, ?_⟩
      exact (by exact x_len [0, 2])
    · have hl : L.length = 0 := by omega
      rw [hl, hz]
      have w3 := string0
      repeat' (first | refine zt ?_ | (refine isR ?_; first | refine zo ?_ | refine x_m [0] [] (w3 _) ?_ | refine x_m0 [0] [] (w3 _) ?_ | refine x_m [0] [] (w3) ?_ | refine x_m0 [0] [] (w3) ?_ | refine zA ?_ | refine zL ?_ | refine zc1 ?_ | refine zc3 ?_ | refine zI ?_ | (refine zs1 ?_ ?_ <;> intro hc) | (refine zs3 ?_ ?_ <;> intro hc)) | refine awp_split rfl (fun hb => ?_) (fun hb => ?_) | refine zr ?_ | exact x_le)
      rfl
  · rw [hst k, hst (k + 1)]
    have hlk := hsm (k + 1)
    by_cases hk2 : k + 1 < L.length
    · have e1 : (L.map Cookie.v)[k + 1]? = some (L[k + 1]).v := by simp [hk2]
      have e2 : L[k + 1]? = some L[k + 1] := by simp [hk2]
      have e3 := hon (k + 1) L[k + 1] e2
      rw [if_neg (by omega)] at e3
      have s4 := hall L[k + 1] (List.getElem_mem hk2)
      rw [e3]
      generalize L[k + 1] = c at *
      generalize acc (k + 1) = p at *
      obtain ⟨c1, c2, c3, c4, c5, c6, c7, c8, c9, c10, c11, c12, c13⟩ := c
      unfold ckT
      dsimp only at *
      have w1 := write1 (p := p) (q := [59, 32]) (by simp; omega)
      have w2 := write1 (p := p ++ [59, 32]) (q := (c1 ++ [61]) ++ c2) (by simp; omega)
      repeat' (first | refine zt ?_ | (refine isR ?_; first | refine zo ?_ | refine x_m [0,1] [3] (w1 _) ?_ | refine x_m0 [0,1] [3] (w1 _) ?_ | refine x_m [0,1] [3] (w1) ?_ | refine x_m0 [0,1] [3] (w1) ?_ | refine x_m [0,3] [4] (w2 _) ?_ | refine x_m0 [0,3] [4] (w2 _) ?_ | refine x_m [0,3] [4] (w2) ?_ | refine x_m0 [0,3] [4] (w2) ?_ | refine zA ?_ | refine zL ?_ | refine zc1 ?_ | refine zc3 ?_ | refine zI ?_ | (refine zs1 ?_ ?_ <;> intro hc) | (refine zs3 ?_ ?_ <;> intro hc)) | refine awp_split rfl (fun hb => ?_) (fun hb => ?_) | refine zr ?_ | exact x_le)
      refine ⟨by omega, hk2, ?_⟩
      exact (by exact x_len [0, 4])
    · have hl : L.length = k + 1 := by omega
      have hn := hne k (by omega)
      rw [hl]
      generalize acc (k + 1) = p at *
      have w4 := string1 (p := p) hn
      repeat' (first | refine zt ?_ | (refine isR ?_; first | refine zo ?_ | refine x_m [0,1] [] (w4 _) ?_ | refine x_m0 [0,1] [] (w4 _) ?_ | refine x_m [0,1] [] (w4) ?_ | refine x_m0 [0,1] [] (w4) ?_ | refine zA ?_ | refine zL ?_ | refine zc1 ?_ | refine zc3 ?_ | refine zI ?_ | (refine zs1 ?_ ?_ <;> intro hc) | (refine zs3 ?_ ?_ <;> intro hc)) | refine awp_split rfl (fun hb => ?_) (fun hb => ?_) | refine zr ?_ | exact x_le)
      rfl
theorem snoc_len {α : Type} (l : List α) (a : α) : (l ++ [a]).length = l.length + 1 := by simp
theorem go_end (k : Nat) (out : List Attr) : goF k [] out = some out := rfl
theorem go_on (k : Nat) (p : List UInt8) (r : List (List UInt8)) (out : List Attr) : goF k (p :: r) out = match pieceF k p with
    | none => none
    | some a => goF (k + 1) r (out ++ [a]) := rfl
theorem piece0 (p : List UInt8) : pieceF 0 p = if (cutF 61 p).2.2 = false ∨ (cutF 61 p).1 = [] then none else some ⟨(cutF 61 p).1, (cutF 61 p).2.1⟩ := by
  unfold pieceF
  simp only [Nat.lt_irrefl, if_false, false_and, false_or]
theorem piece1 (k : Nat) (p : List UInt8) : pieceF (k + 1) p = if (cutP p [32]).2 = false ∨ (cutF 61 (cutP p [32]).1).2.2 = false ∨ (cutF 61 (cutP p [32]).1).1 = [] then none else some ⟨(cutF 61 (cutP p [32]).1).1, (cutF 61 (cutP p [32]).1).2.1⟩ := by
  unfold pieceF
  simp only [Nat.zero_lt_succ, if_true, true_and]
set_option maxRecDepth 100000 in
set_option maxHeartbeats 4000000 in
theorem read_v {s : List UInt8} : ACalls Tryz.prog 39 [strT s] (.tup [.fro ((pairsF s).1.map Attr.v), .int .i64 (pairsF s).2]) := by
  unfold pairsF
  by_cases h0 : 8000 < s.length
  · rw [if_pos h0]
    refine ACalls.nfd (r := .tup [.nils, .int .i64 2]) ?_ rfl
    refine fun1 tb_ok Tryz.func39 rfl Tryz.ntmps39 Tryz.results39 rfl fun N => ?_
    repeat' (first | refine zt ?_ | (refine isR ?_; first | refine zo ?_ | refine x_bs tb_ok ?_ | refine zA ?_ | refine zL ?_ | refine zc1 ?_ | refine zc3 ?_ | refine zc5 ?_ | refine zI ?_ | (refine zs1 ?_ ?_ <;> intro hc) | (refine zs3 ?_ ?_ <;> intro hc) | (refine zs5 ?_ ?_ <;> intro hc)) | refine awp_split rfl (fun hb => ?_) (fun hb => ?_) | refine zr ?_ | exact x_le)
    rfl
  rw [if_neg h0]
  by_cases h1 : s = []
  · rw [if_pos h1]
    refine ACalls.nfd (r := .tup [.nils, .int .i64 0]) ?_ rfl
    refine fun1 tb_ok Tryz.func39 rfl Tryz.ntmps39 Tryz.results39 rfl fun N => ?_
    repeat' (first | refine zt ?_ | (refine isR ?_; first | refine zo ?_ | refine x_bs tb_ok ?_ | refine zA ?_ | refine zL ?_ | refine zc1 ?_ | refine zc3 ?_ | refine zc5 ?_ | refine zI ?_ | (refine zs1 ?_ ?_ <;> intro hc) | (refine zs3 ?_ ?_ <;> intro hc) | (refine zs5 ?_ ?_ <;> intro hc)) | refine awp_split rfl (fun hb => ?_) (fun hb => ?_) | refine zr ?_ | exact x_le)
    rfl
  rw [if_neg h1]
  have c1 := parts_v (u := 59) (l := s) (by omega)
  have hlen := split_len 59 s
  generalize split 59 s = ps at *
  have hx : ((ps.map strT).length : Int) = (ps.length : Int) := by simp
  cases hG : goF 0 ps [] with
  | none =>
    refine ACalls.nfd (r := .tup [.nils, .int .i64 1]) ?_ rfl
    refine fun1 tb_ok Tryz.func39 rfl Tryz.ntmps39 Tryz.results39 rfl fun N => ?_
    repeat' (first | refine zt ?_ | (refine isR ?_; first | refine zo ?_ | refine zk c1 ?_ | refine x_bs tb_ok ?_ | refine zA ?_ | refine zL ?_ | refine zc1 ?_ | refine zc3 ?_ | refine zc5 ?_ | refine zI ?_ | (refine zs1 ?_ ?_ <;> intro hc) | (refine zs3 ?_ ?_ <;> intro hc) | (refine zs5 ?_ ?_ <;> intro hc)) | refine awp_split rfl (fun hb => ?_) (fun hb => ?_) | refine zr ?_ | exact x_le)
    refine awp_name (t := 2) 81 2 (by decide) rfl rfl ?_
    refine awp_whileN (α := Nat × List Attr) (fun x => ⟨[(18, .fro (ps.map strT)), (19, .int .i64 (ps.map strT).length), (20, .int .i64 (x.1 : Int)), (2, .own 0 0 x.2.length)], [(0, some (.els 81 2 (x.2.map Attr.v)))], 1, 56⟩) (fun x => x.1 ≤ ps.length ∧ x.2.length ≤ x.1 ∧ goF x.1 (ps.drop x.1) x.2 = none) (fun x => ps.length - x.1) (0, []) (by exact x_le) ⟨Nat.zero_le _, Nat.le_refl _, hG⟩ ?_
    rintro ⟨k, out⟩ ⟨g1, g2, g3⟩
    dsimp only at g1 g2 g3 ⊢
    by_cases hk : k < ps.length
    · have f1 : (ps.map strT)[k]? = some (strT ps[k]) := by simp [hk]
      rw [List.drop_eq_getElem_cons hk, go_on] at g3
      generalize ps[k] = p at *
      rcases k with _ | k
      · rw [piece0] at g3
        have d1 := cut_v (c := 61) (l := p)
        generalize cutF 61 p = y at *
        obtain ⟨y1, y2, y3⟩ := y
        dsimp only at *
        cases y3 with
        | false =>
          repeat' (first | refine zt ?_ | (refine isR ?_; first | refine zo ?_ | refine zk d1 ?_ | refine x_bs tb_ok ?_ | refine zA ?_ | refine zL ?_ | refine zc1 ?_ | refine zc3 ?_ | refine zc5 ?_ | refine zI ?_ | (refine zs1 ?_ ?_ <;> intro hc) | (refine zs3 ?_ ?_ <;> intro hc) | (refine zs5 ?_ ?_ <;> intro hc)) | refine awp_split rfl (fun hb => ?_) (fun hb => ?_) | refine zr ?_ | exact x_le)
          rfl
        | true =>
          by_cases hn : y1 = []
          · skip
            repeat' (first | refine zt ?_ | (refine isR ?_; first | refine zo ?_ | refine zk d1 ?_ | refine x_bs tb_ok ?_ | refine zA ?_ | refine zL ?_ | refine zc1 ?_ | refine zc3 ?_ | refine zc5 ?_ | refine zI ?_ | (refine zs1 ?_ ?_ <;> intro hc) | (refine zs3 ?_ ?_ <;> intro hc) | (refine zs5 ?_ ?_ <;> intro hc)) | refine awp_split rfl (fun hb => ?_) (fun hb => ?_) | refine zr ?_ | exact x_le)
            rfl
          · rw [if_neg (by simp [hn])] at g3
            repeat' (first | refine zt ?_ | (refine isR ?_; first | refine zo ?_ | refine zk d1 ?_ | refine x_app Attr.v (a1 := (⟨y1, y2⟩)) tb_ok ?_ | refine x_bs tb_ok ?_ | refine zA ?_ | refine zL ?_ | refine zc1 ?_ | refine zc3 ?_ | refine zc5 ?_ | refine zI ?_ | (refine zs1 ?_ ?_ <;> intro hc) | (refine zs3 ?_ ?_ <;> intro hc) | (refine zs5 ?_ ?_ <;> intro hc)) | refine awp_split rfl (fun hb => ?_) (fun hb => ?_) | refine zr ?_ | exact x_le)
            refine ⟨(0 + 1, out ++ [⟨y1, y2⟩]), ⟨by dsimp only; omega, by dsimp only; rw [snoc_len]; omega, g3⟩, by dsimp only; omega, ?_⟩
            exact (by exact x_len [1])
      · rw [piece1] at g3
        have d0 := cutPrefix_v (l := p) (m := [32])
        have d1 := cut_v (c := 61) (l := (cutP p [32]).1)
        generalize cutP p [32] = z at *
        obtain ⟨z1, z2⟩ := z
        dsimp only at *
        generalize cutF 61 z1 = y at *
        obtain ⟨y1, y2, y3⟩ := y
        dsimp only at *
        cases z2 with
        | false =>
          repeat' (first | refine zt ?_ | (refine isR ?_; first | refine zo ?_ | refine zk d0 ?_ | refine zk d1 ?_ | refine x_bs tb_ok ?_ | refine zA ?_ | refine zL ?_ | refine zc1 ?_ | refine zc3 ?_ | refine zc5 ?_ | refine zI ?_ | (refine zs1 ?_ ?_ <;> intro hc) | (refine zs3 ?_ ?_ <;> intro hc) | (refine zs5 ?_ ?_ <;> intro hc)) | refine awp_split rfl (fun hb => ?_) (fun hb => ?_) | refine zr ?_ | exact x_le)
          rfl
        | true =>
          cases y3 with
          | false =>
            repeat' (first | refine zt ?_ | (refine isR ?_; first | refine zo ?_ | refine zk d0 ?_ | refine zk d1 ?_ | refine x_bs tb_ok ?_ | refine zA ?_ | refine zL ?_ | refine zc1 ?_ | refine zc3 ?_ | refine zc5 ?_ | refine zI ?_ | (refine zs1 ?_ ?_ <;> intro hc) | (refine zs3 ?_ ?_ <;> intro hc) | (refine zs5 ?_ ?_ <;> intro hc)) | refine awp_split rfl (fun hb => ?_) (fun hb => ?_) | refine zr ?_ | exact x_le)
            rfl
          | true =>
            by_cases hn : y1 = []
            · skip
              repeat' (first | refine zt ?_ | (refine isR ?_; first | refine zo ?_ | refine zk d0 ?_ | refine zk d1 ?_ | refine x_bs tb_ok ?_ | refine zA ?_ | refine zL ?_ | refine zc1 ?_ | refine zc3 ?_ | refine zc5 ?_ | refine zI ?_ | (refine zs1 ?_ ?_ <;> intro hc) | (refine zs3 ?_ ?_ <;> intro hc) | (refine zs5 ?_ ?_ <;> intro hc)) | refine awp_split rfl (fun hb => ?_) (fun hb => ?_) | refine zr ?_ | exact x_le)
              rfl
            · rw [if_neg (by simp [hn])] at g3
              repeat' (first | refine zt ?_ | (refine isR ?_; first | refine zo ?_ | refine zk d0 ?_ | refine zk d1 ?_ | refine x_app Attr.v (a1 := (⟨y1, y2⟩)) tb_ok ?_ | refine x_bs tb_ok ?_ | refine zA ?_ | refine zL ?_ | refine zc1 ?_ | refine zc3 ?_ | refine zc5 ?_ | refine zI ?_ | (refine zs1 ?_ ?_ <;> intro hc) | (refine zs3 ?_ ?_ <;> intro hc) | (refine zs5 ?_ ?_ <;> intro hc)) | refine awp_split rfl (fun hb => ?_) (fun hb => ?_) | refine zr ?_ | exact x_le)
              refine ⟨(k + 1 + 1, out ++ [⟨y1, y2⟩]), ⟨by dsimp only; omega, by dsimp only; rw [snoc_len]; omega, g3⟩, by dsimp only; omega, ?_⟩
              exact (by exact x_len [1])
    · rw [List.drop_eq_nil_of_le (by omega), go_end] at g3
      cases g3
  | some res =>
    refine fun1 tb_ok Tryz.func39 rfl Tryz.ntmps39 Tryz.results39 rfl fun N => ?_
    repeat' (first | refine zt ?_ | (refine isR ?_; first | refine zo ?_ | refine zk c1 ?_ | refine x_bs tb_ok ?_ | refine zA ?_ | refine zL ?_ | refine zc1 ?_ | refine zc3 ?_ | refine zc5 ?_ | refine zI ?_ | (refine zs1 ?_ ?_ <;> intro hc) | (refine zs3 ?_ ?_ <;> intro hc) | (refine zs5 ?_ ?_ <;> intro hc)) | refine awp_split rfl (fun hb => ?_) (fun hb => ?_) | refine zr ?_ | exact x_le)
    refine awp_name (t := 2) 81 2 (by decide) rfl rfl ?_
    refine awp_whileN (α := Nat × List Attr) (fun x => ⟨[(18, .fro (ps.map strT)), (19, .int .i64 (ps.map strT).length), (20, .int .i64 (x.1 : Int)), (2, .own 0 0 x.2.length)], [(0, some (.els 81 2 (x.2.map Attr.v)))], 1, 56⟩) (fun x => x.1 ≤ ps.length ∧ x.2.length ≤ x.1 ∧ goF x.1 (ps.drop x.1) x.2 = some res) (fun x => ps.length - x.1) (0, []) (by exact x_le) ⟨Nat.zero_le _, Nat.le_refl _, hG⟩ ?_
    rintro ⟨k, out⟩ ⟨g1, g2, g3⟩
    dsimp only at g1 g2 g3 ⊢
    by_cases hk : k < ps.length
    · have f1 : (ps.map strT)[k]? = some (strT ps[k]) := by simp [hk]
      rw [List.drop_eq_getElem_cons hk, go_on] at g3
      generalize ps[k] = p at *
      rcases k with _ | k
      · rw [piece0] at g3
        have d1 := cut_v (c := 61) (l := p)
        generalize cutF 61 p = y at *
        obtain ⟨y1, y2, y3⟩ := y
        dsimp only at *
        by_cases hn : y3 = false ∨ y1 = []
        · rw [if_pos hn] at g3; cases g3
        · rw [if_neg hn] at g3
          obtain ⟨hn1, hn2⟩ := not_or.1 hn
          obtain rfl : y3 = true := by simpa using hn1
          clear hn hn1
          repeat' (first | refine zt ?_ | (refine isR ?_; first | refine zo ?_ | refine zk d1 ?_ | refine x_app Attr.v (a1 := (⟨y1, y2⟩)) tb_ok ?_ | refine x_bs tb_ok ?_ | refine zA ?_ | refine zL ?_ | refine zc1 ?_ | refine zc3 ?_ | refine zc5 ?_ | refine zI ?_ | (refine zs1 ?_ ?_ <;> intro hc) | (refine zs3 ?_ ?_ <;> intro hc) | (refine zs5 ?_ ?_ <;> intro hc)) | refine awp_split rfl (fun hb => ?_) (fun hb => ?_) | refine zr ?_ | exact x_le)
          refine ⟨(0 + 1, out ++ [⟨y1, y2⟩]), ⟨by dsimp only; omega, by dsimp only; rw [snoc_len]; omega, g3⟩, by dsimp only; omega, ?_⟩
          exact (by exact x_len [1])
      · rw [piece1] at g3
        have d0 := cutPrefix_v (l := p) (m := [32])
        have d1 := cut_v (c := 61) (l := (cutP p [32]).1)
        generalize cutP p [32] = z at *
        obtain ⟨z1, z2⟩ := z
        dsimp only at *
        generalize cutF 61 z1 = y at *
        obtain ⟨y1, y2, y3⟩ := y
        dsimp only at *
        by_cases hn : z2 = false ∨ y3 = false ∨ y1 = []
        · rw [if_pos hn] at g3; cases g3
        · rw [if_neg hn] at g3
          obtain ⟨hn0, hn⟩ := not_or.1 hn
          obtain ⟨hn1, hn2⟩ := not_or.1 hn
          obtain rfl : y3 = true := by simpa using hn1
          obtain rfl : z2 = true := by simpa using hn0
          clear hn hn1 hn0
          repeat' (first | refine zt ?_ | (refine isR ?_; first | refine zo ?_ | refine zk d0 ?_ | refine zk d1 ?_ | refine x_app Attr.v (a1 := (⟨y1, y2⟩)) tb_ok ?_ | refine x_bs tb_ok ?_ | refine zA ?_ | refine zL ?_ | refine zc1 ?_ | refine zc3 ?_ | refine zc5 ?_ | refine zI ?_ | (refine zs1 ?_ ?_ <;> intro hc) | (refine zs3 ?_ ?_ <;> intro hc) | (refine zs5 ?_ ?_ <;> intro hc)) | refine awp_split rfl (fun hb => ?_) (fun hb => ?_) | refine zr ?_ | exact x_le)
          refine ⟨(k + 1 + 1, out ++ [⟨y1, y2⟩]), ⟨by dsimp only; omega, by dsimp only; rw [snoc_len]; omega, g3⟩, by dsimp only; omega, ?_⟩
          exact (by exact x_len [1])
    · rw [List.drop_eq_nil_of_le (by omega), go_end] at g3
      have e : out = res := Option.some.inj g3
      subst e
      repeat' (first | refine zt ?_ | (refine isR ?_; first | refine zo ?_ | refine x_bs tb_ok ?_ | refine zA ?_ | refine zL ?_ | refine zc1 ?_ | refine zc3 ?_ | refine zc5 ?_ | refine zI ?_ | (refine zs1 ?_ ?_ <;> intro hc) | (refine zs3 ?_ ?_ <;> intro hc) | (refine zs5 ?_ ?_ <;> intro hc)) | refine awp_split rfl (fun hb => ?_) (fun hb => ?_) | refine zr ?_ | exact x_le)
      show V.tup [V.fro (List.take out.length (List.drop 0 (out.map Attr.v))), _] = _
      rw [List.drop_zero, List.take_of_length_le (by simp)]; rfl
end Go.Proofs.YtepnalbefjicgaaGreatDoor.LineC
end

section
namespace Go.Proofs.YtepnalbefjicgaaGreatDoor.Abs
open Go.RowKit Mem Facts
section
variable {P : Program} {N : Env} {M A : Nat → Prop} {φ : Nat → Pl} {s : S} {a : Act} {w : World} {o : Oper}
theorem BlkAt.less {X X' M M' : Nat → Prop} {pl : Pl} {k : Blk} (hX : ∀ b, X' b → X b) (hM : ∀ b, pl.blk = some b → M b → M' b) (h : BlkAt X M A φ w pl k) : BlkAt X' M' A φ w pl k := by
  have mono : ∀ {v : V} {x : Value}, Rep X A φ w v x → Rep X' A φ w v x := fun h => h.mono (fun b _ hb => hX b hb) (.refl _ w) (fun _ h => h) fun _ _ => rfl
  cases k with
  | els T sz xs =>
    obtain ⟨h1, h2, h3, h4, h5⟩ := h
    refine ⟨h1, h2, h3, h4, h5.imp id ?_⟩
    rintro ⟨b, cur, g1, g2, g3, g4, g5, g6, g7⟩
    refine ⟨b, cur, g1, hM b g1 g2, g3, g4, g5, g6, fun i j x u hx hu => ?_⟩
    obtain ⟨c, hc, hr⟩ := g7 i j x u hx hu
    exact ⟨c, hc, mono hr⟩
  | map es =>
    obtain ⟨b, ents, clock, g1, g2, g3, g4, g5⟩ := h
    exact ⟨b, ents, clock, g1, hM b g1 g2, g3, g4, fun i k v e hk he => ⟨(g5 i k v e hk he).1.mono (fun b _ hb => hX b hb) (.refl _ w), mono (g5 i k v e hk he).2⟩⟩
  | sit t pos =>
    obtain ⟨h0, b, g1, g2, g3⟩ := h
    exact ⟨h0, b, g1, hM b g1 g2, g3⟩
end
section
variable {P : Program} {N : Env} {l r : List Oper} {o : Oper} {tm : List (Nat × V)} {st : List (Nat × Option Blk)} {nx nt : Nat} {tr : List Tr} {K : S → List Tr → Prop} {d : Nat}
end
end Go.Proofs.YtepnalbefjicgaaGreatDoor.Abs
end

section
namespace Go.Proofs.YtepnalbefjicgaaGreatDoor.LineD
open Go.RowKit Mem Abs TreeW WordS PathT SortP SortW SortM SortN LineA LineP LineB LineC

def b0 : Cookie := crumbC ([97] : List UInt8) ([47] : List UInt8) 5 1
def b1 : Cookie := crumbC ([98] : List UInt8) ([47, 120] : List UInt8) 9 2
def b2 : Cookie := crumbC ([99] : List UInt8) ([47] : List UInt8) 4 3
def b3 : Cookie := crumbC ([100] : List UInt8) ([47] : List UInt8) 5 0
theorem b_sort : sortF ckLt [b0, b1, b2, b3] = [b1, b2, b3, b0] := by kernel_rfl
theorem b_line : lineT [b0, b1] = ([97, 61, 118, 59, 32, 98, 61, 118] : List UInt8) := rfl
theorem b_read : pairsF ([97, 61, 49, 59, 32, 98, 61, 120, 61, 121] : List UInt8) = ([⟨([97] : List UInt8), ([49] : List UInt8)⟩, ⟨([98] : List UInt8), ([120, 61, 121] : List UInt8)⟩], 0) := by kernel_rfl
theorem b_bad : pairsF ([97, 61, 49, 59, 98, 61, 50] : List UInt8) = ([], 1) := by kernel_rfl
set_option maxRecDepth 100000 in
set_option maxHeartbeats 4000000 in
theorem begun_v : ACalls Tryz.prog 11 [] (.bool true) := by
  have c0 := crumb_v (n := ([97] : List UInt8)) (p := ([47] : List UInt8)) (cr := 5) (no := 1)
  have c1 := crumb_v (n := ([98] : List UInt8)) (p := ([47, 120] : List UInt8)) (cr := 9) (no := 2)
  have c2 := crumb_v (n := ([99] : List UInt8)) (p := ([47] : List UInt8)) (cr := 4) (no := 3)
  have c3 := crumb_v (n := ([100] : List UInt8)) (p := ([47] : List UInt8)) (cr := 5) (no := 0)
  have c4 := lineSort_v (L := [b0, b1, b2, b3]) (by decide)
  rw [b_sort] at c4
  have c5 := read_v (s := ([97, 61, 49, 59, 32, 98, 61, 120, 61, 121] : List UInt8))
  rw [b_read] at c5
  have c6 := read_v (s := ([97, 61, 49, 59, 98, 61, 50] : List UInt8))
  rw [b_bad] at c6
  have c7 := sameCookies_v (L := [b1, b2, b3, b0]) (K := [b1, b2, b3, b0])
  rw [decide_eq_true rfl] at c7
  have c8 := write_v (L := [b0, b1]) ⟨by decide, fun c hc => by rcases List.mem_cons.1 hc with rfl | hc; exact ⟨by decide, by decide⟩; rcases List.mem_cons.1 hc with rfl | hc; exact ⟨by decide, by decide⟩; cases hc⟩
  rw [b_line] at c8
  have c9 := sameAttrs_v (L := [⟨([97] : List UInt8), ([49] : List UInt8)⟩, ⟨([98] : List UInt8), ([120, 61, 121] : List UInt8)⟩]) (K := [⟨([97] : List UInt8), ([49] : List UInt8)⟩, ⟨([98] : List UInt8), ([120, 61, 121] : List UInt8)⟩])
  rw [decide_eq_true rfl] at c9
  have hl : ([b0, b1, b2, b3] : List Cookie).length = 4 := rfl
  have e0 : ([b0.v, b1.v, b2.v, b3.v] : List Abs.V)[(0 : Int).toNat]? = some b0.v := rfl
  have e1 : ([b0.v, b1.v, b2.v, b3.v] : List Abs.V)[(1 : Int).toNat]? = some b1.v := rfl
  have e2 : ([b0.v, b1.v, b2.v, b3.v] : List Abs.V)[(2 : Int).toNat]? = some b2.v := rfl
  have e3 : ([b0.v, b1.v, b2.v, b3.v] : List Abs.V)[(3 : Int).toNat]? = some b3.v := rfl
  refine fun0 tb_ok Tryz.func11 rfl Tryz.ntmps11 Tryz.results11 fun N => ?_
  repeat' (first | refine zt ?_ | (refine isR ?_; first | refine zo ?_ | refine zk c0 ?_ | refine zk c1 ?_ | refine zk c2 ?_ | refine zk c3 ?_ | refine zk c4 ?_ | refine zk c5 ?_ | refine zk c6 ?_ | refine zk c7 ?_ | refine x_slFt (L := [b0, b1, b2, b3]) (f := Cookie.v) tb_ok ?_ | refine zk c8 ?_ | refine zk c9 ?_ | refine x_bs tb_ok ?_ | refine zc5 ?_ | refine zI ?_ | refine zS ?_ | (refine zs5 ?_ ?_ <;> intro hc)) | refine awp_split rfl (fun hb => ?_) (fun hb => ?_) | refine zr ?_ | exact x_le)
  all_goals rfl
end Go.Proofs.YtepnalbefjicgaaGreatDoor.LineD
end

section
namespace Go.Proofs.YtepnalbefjicgaaGreatDoor.Abs
open Go.RowKit Mem Facts

/-- Nothing in it leads to frozen memory. -/
def owV : V → Bool
  | .int _ _ | .bool _ | .str _ | .nils | .nilp | .nilf | .nili | .nilm | .und | .own _ _ _ | .loc _ _ _ | .mp _ => true
  | _ => false
def owR : V → Bool
  | .agg vs => vs.all owV
  | .tup vs => vs.all fun v => match v with
    | .agg us => us.all owV
    | v => owV v
  | v => owV v
section
variable {X X' A : Nat → Prop} {φ : Nat → Pl} {w : World}
theorem ow_fz {v : V} {x : Value} (h : owV v = true) (hf : Fz X w v x) : Fz X' w v x := by
  cases hf <;> first
    | (simp [owV] at h; done)
    | exact .bool | exact .nils | exact .nilp | exact .nilf | exact .nili | exact .nilm | exact .und
    | (rename_i hs; exact .str hs)
    | (rename_i hs; exact .int hs)
theorem ow_rep {v : V} {x : Value} (h : owV v = true) (hr : Rep X A φ w v x) : Rep X' A φ w v x := by
  cases hr with
  | fz hf => exact .fz (ow_fz h hf)
  | agg => simp [owV] at h
  | tup => simp [owV] at h
  | fn => simp [owV] at h
  | ifc => simp [owV] at h
  | own0 h1 h2 => exact .own0 h1 h2
  | own h1 h2 h3 h4 => exact .own h1 h2 h3 h4
  | loc h1 h2 => exact .loc h1 h2
  | mp h1 h2 => exact .mp h1 h2
theorem ow_agg {us : List V} {x : Value} (h : us.all owV = true) (hr : Rep X A φ w (.agg us) x) : Rep X' A φ w (.agg us) x := by
  have hat : ∀ (i : Nat) y, us[i]? = some y → owV y = true := fun i y hy => List.all_eq_true.1 h y (List.mem_of_getElem? hy)
  cases hr with
  | fz hf =>
    cases hf with
    | agg h1 h2 h3 => exact .fz (.agg h1 h2 fun i y c hy hc => ow_fz (hat i y hy) (h3 i y c hy hc))
  | agg h1 h2 h3 => exact .agg h1 h2 fun i y c hy hc => ow_rep (hat i y hy) (h3 i y c hy hc)
theorem owR_rep {v : V} {x : Value} (h : owR v = true) (hr : Rep X A φ w v x) : Rep X' A φ w v x := by
  unfold owR at h
  split at h
  · exact ow_agg h hr
  · rename_i vs
    have each : ∀ (i : Nat) y c, vs[i]? = some y → Rep X A φ w y c → Rep X' A φ w y c := fun i y c hy hc => by
      have := List.all_eq_true.1 h y (List.mem_of_getElem? hy)
      split at this
      · exact ow_agg this hc
      · exact ow_rep this hc
    cases hr with
    | fz hf =>
      cases hf with
      | tup h1 h2 => exact .tup h1 fun i y c hy hc => each i y c hy (.fz (h2 i y c hy hc))
    | tup h1 h2 => exact .tup h1 fun i y c hy hc => each i y c hy (h2 i y c hy hc)
  · exact ow_rep h hr
/-- A row in which nothing leads to frozen memory. -/
def OwB : Option Blk → Prop
  | none => True
  | some (.els _ _ xs) => ∀ x ∈ xs, ∀ u ∈ x.cells, owV u = true
  | _ => False
theorem OwB.turn {M : Nat → Prop} {pl : Pl} {k : Blk} (h : OwB (some k)) (hb : BlkAt X M A φ w pl k) : BlkAt X' M A φ w pl k := by
  cases k with
  | els T sz xs =>
    obtain ⟨h1, h2, h3, h4, h5⟩ := hb
    refine ⟨h1, h2, h3, h4, h5.imp id ?_⟩
    rintro ⟨b, cur, g1, g2, g3, g4, g5, g6, g7⟩
    refine ⟨b, cur, g1, g2, g3, g4, g5, g6, fun i j x u hx hu => ?_⟩
    obtain ⟨c, hc, hr⟩ := g7 i j x u hx hu
    exact ⟨c, hc, ow_rep (h x (List.mem_of_getElem? hx) u (List.mem_of_getElem? hu)) hr⟩
  | map es => exact h.elim
  | sit s p => exact h.elim
end
/-- The new rows' names, behind k that were handed. -/
def upN (k n : Nat) : List Nat := (List.range n).map (· + k)
theorem upN_at {k n i : Nat} (h : i < n) : nm (upN k n) i = i + k := by
  have : nth (upN k n) i = some (i + k) := by rw [nth_eq]; simp [upN, h]
  exact (nm_of this).1
theorem mcallsG_own {P : Program} {g : Glob} {f : FuncId} {us vs : List V} {bs : List Blk} {rv rv2 : V} {st' st2 : List (Option Blk)} (h : MCallsG P g f us [] rv st') (hf : frzL (fun n => bs[n]?) vs = some us) (hok : FrzOkL (fun n => bs[n]?) vs)
    (how : owR rv = true) (hows : ∀ b ∈ st', OwB b) (hr : renO (upN bs.length st'.length) rv = some rv2) (hst : RenOs (upN bs.length st'.length) st' st2) : MCallsG P g f vs bs rv2 (bs.map some ++ st2) := fun N M φ w vals hrows hlen hv => by
  obtain ⟨l1, l2⟩ := frzL_some hf
  obtain ⟨q1, q2⟩ := renO_ren hr
  have hsl := hst.len
  have hul : (upN bs.length st'.length).length = st'.length := by simp [upN]
  have hblk : ∀ n k, (S.mk [] (rowsFrom bs 0) bs.length 0).blk n = some k ↔ bs[n]? = some k := fun n k => by
    unfold S.blk
    simp only [lk_rows, Nat.zero_le, if_true, Nat.sub_zero]
    cases bs[n]? <;> simp
  have rel : Rel ⟨⟨N, g⟩, 0, fun _ => ⟨none, 0, 0⟩, []⟩ M (· < bs.length) φ ⟨[], rowsFrom bs 0, bs.length, 0⟩ ⟨#[], []⟩ w :=
    ⟨fun t v ht => by simp [lk] at ht, rfl, fun n k hk => hrows.st n k (by simp [(hblk n k).1 hk]), fun n n' k k' b e1 e2 => hrows.inj n n' k k' b (by simp [(hblk n k).1 e1]) (by simp [(hblk n' k').1 e2]), hrows.lim, hrows.dis, rfl, fun n hn => by exact absurd hn (Nat.not_lt_zero n), hrows.gl⟩
  have args : ∀ (i : Nat) u x, us[i]? = some u → vals[i]? = some x → Fz N w u x := fun i u x hu hx => by
    have hil : i < vs.length := by rw [l1]; exact (List.getElem?_eq_some_iff.1 hu).1
    obtain ⟨u', m1, m2⟩ := l2 i vs[i] (List.getElem?_eq_getElem hil)
    rw [hu] at m1; cases m1
    exact rel.frz (b := fun n => bs[n]?) (fun n k hk => (hblk n k).2 hk) (hv i vs[i] x (List.getElem?_eq_getElem hil) hx) m2 (frzOkL_at hok _ (List.getElem_mem hil))
  refine Calls.mono (h N (fun _ => False) (fun _ => ⟨none, 0, 0⟩) w vals ⟨fun n k hk => by simp at hk, fun n n' k k' b e1 => by simp at e1, fun b hb => hrows.lim b (hb.elim False.elim .inr), fun b hb => hb.elim, hrows.gl.sub fun b hb => hb.elim False.elim .inr⟩ (by rw [← l1]; exact hlen) fun i u x hu hx => .fz ((args i u x hu hx).mono (fun b _ hb => hb.elim False.elim id) (.refl _ w))) ?_
  rintro e w' ⟨x, M2, φ2, rfl, hs, hM, _, rows2, hrep⟩
  have hM : ∀ b, b < w.heap.size → ¬ M2 b := fun b hb h => hM b hb h
  have hsX : ∀ Q : Nat → Prop, Stays Q w w' := fun Q => ⟨hs.os, hs.tape, hs.output, hs.size, fun b hb _ => hs.block b hb id⟩
  have hX : ∀ b, b < w.heap.size → ((M b ∨ M2 b) ∨ N b) → M b ∨ N b := fun b hb h => h.imp (fun h => h.elim id fun h => (hM b hb h).elim) id
  let φ3 : Nat → Pl := fun n => if n < bs.length then φ n else φ2 (n - bs.length)
  have p1 : ∀ n, n < bs.length → φ3 n = φ n := fun n hn => if_pos hn
  have p2 : ∀ n, n < st'.length → φ3 (nm (upN bs.length st'.length) n) = φ2 n := fun n hn => by
    rw [upN_at hn]
    show (if n + bs.length < bs.length then _ else _) = _
    rw [if_neg (by omega), Nat.add_sub_cancel]
  have all : (bs.map some ++ st2).length = bs.length + st'.length := by simp [hsl]
  have cases2 : ∀ n k, (bs.map some ++ st2)[n]? = some (some k) → (n < bs.length ∧ bs[n]? = some k) ∨ (∃ m b, n = m + bs.length ∧ m < st'.length ∧ st'[m]? = some (some b) ∧ RenB (upN bs.length st'.length) b k) := fun n k hk => by
    by_cases hn : n < bs.length
    · rw [List.getElem?_append_left (by simpa using hn), List.getElem?_map] at hk
      refine .inl ⟨hn, ?_⟩
      cases hb : bs[n]? with
      | none => rw [hb] at hk; cases hk
      | some b => rw [hb] at hk; simpa using hk
    · rw [List.getElem?_append_right (by simpa using hn), List.length_map] at hk
      obtain ⟨b, hb, hren⟩ := hst.back (n - bs.length) k hk
      exact .inr ⟨n - bs.length, b, by omega, (List.getElem?_eq_some_iff.1 hb).1, hb, hren⟩
  refine ⟨x, fun b => M b ∨ M2 b, φ3, rfl, hsX M, fun b hb h => h.elim id fun h => (hM b hb h).elim, fun n hn => p1 n hn, ⟨fun n k hk => ?_, fun n n' k k' b e1 e2 e3 e4 => ?_, fun b hb => ?_, fun b hb hn => ?_, hrows.gl.stays (hsX _) hX⟩, ?_⟩
  · rcases cases2 n k hk with ⟨hn, hb⟩ | ⟨m, b, rfl, hm, hb, hren⟩
    · obtain ⟨g1, g2⟩ := hrows.st n k (by simp [hb])
      refine ⟨by rw [all]; omega, ?_⟩
      rw [p1 n hn]
      exact g2.mono hX (hsX _) (fun n h => by rw [all]; omega) (fun n h => p1 n h) (fun _ h => .inl h) fun b _ => by
        by_cases hbs : b < w.heap.size
        · exact hs.block b hbs id
        · rename_i hpl
          have := hrows.lim b (.inl (blk_some g2 hpl))
          omega
    · obtain ⟨g1, g2⟩ := rows2.st m b hb
      refine ⟨by rw [all]; omega, ?_⟩
      have e : φ3 (m + bs.length) = φ2 m := by rw [← upN_at (k := bs.length) hm]; exact p2 m hm
      rw [e]
      exact BlkAt.ren_on (X := fun b => (M b ∨ M2 b) ∨ N b) (fun _ _ h => h) hren (fun n hn _ => ⟨by rw [all, upN_at (by omega)]; omega, p2 n (by omega)⟩) (fun _ _ h => .inr h) ((hows _ (List.mem_of_getElem? hb)).turn g2)
  · rcases cases2 n k e1 with ⟨hn, hb⟩ | ⟨m, c, rfl, hm, hb, _⟩ <;> rcases cases2 n' k' e2 with ⟨hn', hb'⟩ | ⟨m', c', rfl, hm', hb', _⟩
    · rw [p1 n hn] at e3
      rw [p1 n' hn'] at e4
      exact hrows.inj n n' k k' b (by simp [hb]) (by simp [hb']) e3 e4
    · rw [p1 n hn] at e3
      rw [← upN_at (k := bs.length) hm', p2 m' hm'] at e4
      exact (hM b (hrows.lim b (.inl (blk_some (hrows.st n k (by simp [hb])).2 e3))) (blk_some (rows2.st m' c' hb').2 e4)).elim
    · rw [p1 n' hn'] at e4
      rw [← upN_at (k := bs.length) hm, p2 m hm] at e3
      exact (hM b (hrows.lim b (.inl (blk_some (hrows.st n' k' (by simp [hb'])).2 e4))) (blk_some (rows2.st m c hb).2 e3)).elim
    · rw [← upN_at (k := bs.length) hm, p2 m hm] at e3
      rw [← upN_at (k := bs.length) hm', p2 m' hm'] at e4
      rw [rows2.inj m m' c c' b hb hb' e3 e4]
  · rcases hb with (hb | hb) | hb
    · exact Nat.lt_of_lt_of_le (hrows.lim b (.inl hb)) hs.size
    · exact rows2.lim b (.inl hb)
    · exact rows2.lim b (.inr hb)
  · rcases hb with hb | hb
    · exact hrows.dis b hb hn
    · exact rows2.dis b hb hn
  · rw [q1]
    exact (owR_rep how hrep).unren fun n hn hl => ⟨by rw [all, upN_at (by have := q2 n hn; omega)]; have := q2 n hn; omega, p2 n (by have := q2 n hn; omega)⟩
theorem mcalls_own {P : Program} {f : FuncId} {us vs : List V} {bs : List Blk} {rv rv2 : V} {st' st2 : List (Option Blk)} (h : MCalls P f us [] rv st') (hf : frzL (fun n => bs[n]?) vs = some us) (hok : FrzOkL (fun n => bs[n]?) vs)
    (how : owR rv = true) (hows : ∀ b ∈ st', OwB b) (hr : renO (upN bs.length st'.length) rv = some rv2) (hst : RenOs (upN bs.length st'.length) st' st2) : MCalls P f vs bs rv2 (bs.map some ++ st2) := fun g => mcallsG_own (h g) hf hok how hows hr hst
end Go.Proofs.YtepnalbefjicgaaGreatDoor.Abs
end

section
namespace Go.Proofs.YtepnalbefjicgaaGreatDoor.RjL
open Go.RowKit Mem Abs Globs Scan JarP JarA JarB JarC JarE JarM PolP PolA PurA RjP SortP SortW
open LineB (crumbC crumb_v)
open ConC (conI intsV)

theorem tailC (L T : List Cookie) : List.take (L.map Cookie.v).length (List.drop 0 ((L ++ T).map Cookie.v)) = L.map Cookie.v := by
  rw [List.drop_zero, List.map_append, List.take_left]
theorem tail_ok {L T : List Cookie} : 0 + (L.map Cookie.v).length ≤ ((L ++ T).map Cookie.v).length := by simp
theorem tail_no {M : List Cookie} : ∀ x : Abs.V, x ∈ M.map Cookie.v → x.names = [] := fun x hx => by obtain ⟨a, _, rfl⟩ := List.mem_map.1 hx; rfl
theorem owC {D : List Cookie} : OwB (some (rC D)) := by
  intro x hx u hu
  obtain ⟨a, _, rfl⟩ := List.mem_map.1 hx
  exact List.all_eq_true.1 (show (Abs.V.cells a.v).all owV = true from rfl) u hu
theorem ow1 {D : List Cookie} : ∀ b ∈ [some (rC D)], OwB b := fun b hb => by
  obtain rfl := List.mem_singleton.1 hb
  exact owC
theorem ow2 {D G : List Cookie} : ∀ b ∈ [some (rC D), some (rC G)], OwB b := fun b hb => by
  rcases List.mem_cons.1 hb with rfl | hb
  · exact owC
  · exact ow1 b hb
abbrev ownT (L : List Cookie) : Abs.V := .own 0 0 (L.map Cookie.v).length
abbrev jarT (L : List Cookie) (nx : Int) : Abs.V := .agg [ownT L, .int .i64 nx]
theorem handPut {L T A : List Cookie} {nx n1 e1 now : Int} {c : Cookie} (h : MCalls Tryz.prog 5 [jarV L nx, c.v, .int .i64 now] [] (.tup [ownJ 0 A.length n1, .int .i64 e1]) [some (rC A)]) :
    MCalls Tryz.prog 5 [jarT L nx, c.v, .int .i64 now] [rC (L ++ T)] (.tup [ownJ 1 A.length n1, .int .i64 e1]) [some (rC (L ++ T)), some (rC A)] := by
  refine mcalls_own h ?_ ?_ rfl ow1 rfl (.on (.same (nl_map fun _ => rfl)) .nil)
  · show some [.agg [.fro (List.take (L.map Cookie.v).length (List.drop 0 ((L ++ T).map Cookie.v))), .int .i64 nx], c.v, .int .i64 now] = _
    rw [tailC]
  · repeat' first | exact trivial | exact rfl | exact tail_ok | exact tail_no | exact frz_map (fun _ => rfl) | constructor
theorem handGet {L T B G : List Cookie} {nx n2 e2 now : Int} {f : From} (h : MCallsG Tryz.prog gStr 6 [jarV L nx, f.v, .int .i64 now] [] (.tup [ownJ 0 B.length n2, .own 1 0 G.length, .int .i64 e2]) [some (rC B), some (rC G)]) :
    MCallsG Tryz.prog gStr 6 [jarT L nx, f.v, .int .i64 now] [rC (L ++ T)] (.tup [ownJ 1 B.length n2, .own 2 0 G.length, .int .i64 e2]) [some (rC (L ++ T)), some (rC B), some (rC G)] := by
  refine mcallsG_own h ?_ ?_ rfl ow2 rfl (.on (.same (nl_map fun _ => rfl)) (.on (.same (nl_map fun _ => rfl)) .nil))
  · show some [.agg [.fro (List.take (L.map Cookie.v).length (List.drop 0 ((L ++ T).map Cookie.v))), .int .i64 nx], f.v, .int .i64 now] = _
    rw [tailC]
  · repeat' first | exact trivial | exact rfl | exact tail_ok | exact tail_no | exact frz_map (fun _ => rfl) | constructor
theorem handPurge {L T D : List Cookie} {nx n3 q e3 now g : Int} {p : Pol} {P : Nat → Bool} {U : List Int} (h : MCallsG Tryz.prog gStr 7 [jarV L nx, polV p, conI g P U, .int .i64 now] [] (.tup [ownJ 0 D.length n3, .int .i64 q, .int .i64 e3]) [some (rC D)]) :
    MCallsG Tryz.prog gStr 7 [jarT L nx, polV p, conI g P U, .int .i64 now] [rC (L ++ T)] (.tup [ownJ 1 D.length n3, .int .i64 q, .int .i64 e3]) [some (rC (L ++ T)), some (rC D)] := by
  refine mcallsG_own h ?_ ?_ rfl ow1 rfl (.on (.same (nl_map fun _ => rfl)) .nil)
  · show some [.agg [.fro (List.take (L.map Cookie.v).length (List.drop 0 ((L ++ T).map Cookie.v))), .int .i64 nx], polV p, conI g P U, .int .i64 now] = _
    rw [tailC]
  · repeat' first | exact trivial | exact rfl | exact tail_ok | exact tail_no | exact frz_map (fun _ => rfl) | constructor
theorem handSort {L T S : List Cookie} (h : MCalls Tryz.prog 8 [.fro (L.map Cookie.v)] [] (.own 0 0 S.length) [some (rC S)]) :
    MCalls Tryz.prog 8 [ownT L] [rC (L ++ T)] (.own 1 0 S.length) [some (rC (L ++ T)), some (rC S)] := by
  refine mcalls_own h ?_ ?_ rfl ow1 rfl (.on (.same (nl_map fun _ => rfl)) .nil)
  · show some [Abs.V.fro (List.take (L.map Cookie.v).length (List.drop 0 ((L ++ T).map Cookie.v)))] = _
    rw [tailC]
  · repeat' first | exact trivial | exact rfl | exact tail_ok | exact tail_no | exact frz_map (fun _ => rfl) | constructor
abbrev cR : Cookie := crumbC ([114, 111, 111, 109] : List UInt8) ([47] : List UInt8) 1 1
abbrev cZ : Cookie := crumbC ([122] : List UInt8) ([122] : List UInt8) (-5) (-6)
set_option maxRecDepth 100000 in
set_option maxHeartbeats 4000000 in
theorem twin_m {L : List Cookie} (hL : L.length ≤ 1048576) : MCalls Tryz.prog 4 [.fro (L.map Cookie.v)] [] (ownT L) [some (rC (L ++ [cR]))] := by
  have hml : (L.map Cookie.v).length = L.length := List.length_map _
  have hq1 : (((L.map Cookie.v).length : Nat) : Int) + 1 = (((L.map Cookie.v).length + 1 : Nat) : Int) := by omega
  have ha1 : (([] : List Cookie) ++ L).length = L.length := rfl
  have ha3 : (([] : List Cookie) ++ L ++ [cR]).length = L.length + 1 := by simp
  have hl1 : (L ++ [cR]).length = L.length + 1 := by simp
  have c1 := crumb_v (n := ([114, 111, 111, 109] : List UInt8)) (p := ([47] : List UInt8)) (cr := 1) (no := 1)
  refine mfun tb_ok Tryz.func4 rfl Tryz.ntmps4 Tryz.results4 rfl rfl rfl rfl fun N pl => ?_
  repeat' (first | refine zt ?_ | (refine isR ?_; first | refine zo ?_ | refine x_mk0 Cookie.v ((L.map Cookie.v).length + 1) tb_ok ?_ | refine x_appK Cookie.v (L := []) (K' := L) tb_ok ?_ | refine zk c1 ?_ | refine x_app Cookie.v (a1 := cR) tb_ok ?_ | refine x_slOt tb_ok ?_ | refine x_bs tb_ok ?_ | refine zA ?_ | refine zL ?_ | refine zS ?_) | refine awp_split rfl (fun hb => ?_) (fun hb => ?_) | refine x_mret [2] ?_ ?_ | refine x_mnor [2] ?_ ?_ | refine zr ?_ | exact x_le)
  all_goals first | rfl | exact .on (.same (nl_map fun _ => rfl)) .nil
def zap (k : Nat) (B : List Cookie) : List Cookie := B.mapIdx fun i b => if i < k then cZ else b
theorem zap_len (k : Nat) (B : List Cookie) : (zap k B).length = B.length := by simp [zap]
theorem zap_zero (B : List Cookie) : zap 0 B = B := by
  apply List.ext_getElem?
  intro i
  simp [zap]
theorem zap_at {k : Nat} {B : List Cookie} (h : k < B.length) : (zap k B)[k]? = some B[k] := by simp [zap, h]
theorem zap_set (k : Nat) (B : List Cookie) : (zap k B).set k cZ = zap (k + 1) B := by
  apply List.ext_getElem?
  intro i
  rw [List.getElem?_set, zap_len]
  by_cases e : k = i
  · subst e
    rw [if_pos rfl]
    by_cases h : k < B.length
    · rw [if_pos h]; simp [zap, h]
    · rw [if_neg h]; simp [zap, Nat.le_of_not_lt h]
  · rw [if_neg e]
    simp only [zap, List.getElem?_mapIdx]
    have : (i < k) = (i < k + 1) := by apply propext; omega
    simp only [this]
set_option maxRecDepth 100000 in
set_option maxHeartbeats 4000000 in
theorem scratch_m {K : List Cookie} (hK : K.length ≤ 1048576) : MCalls Tryz.prog 12 [.own 0 0 K.length] [rC K] (.tup []) [some (rC (zap K.length K))] := by
  have c1 := crumb_v (n := ([122] : List UInt8)) (p := ([122] : List UInt8)) (cr := -5) (no := -6)
  refine mfun tb_ok Tryz.func12 rfl Tryz.ntmps12 Tryz.results12 rfl rfl rfl rfl fun N pl => ?_
  repeat' (first | refine zt ?_ | (refine isR ?_; first | refine zo ?_ | refine zA ?_ | refine zL ?_ | refine zc1 ?_ | refine zI ?_ | (refine zs1 ?_ ?_ <;> intro hc)) | refine awp_split rfl (fun hb => ?_) (fun hb => ?_) | refine zr ?_ | exact x_le)
  refine awp_forN (fun k => ⟨[(0, .own 0 0 K.length), (2, nV k)], [(0, some (rC (zap k K)))], 1, 13⟩) (fun k => k ≤ K.length) K.length 0 (by dsimp only; rw [zap_zero]; exact (by exact x_le)) (Nat.zero_le _) ?_
  intro k hk
  by_cases hk2 : k < K.length
  · have hx := zap_at hk2
    have hzl := zap_len k K
    have hst := zap_set k K
    generalize K[k] = x at hx
    generalize zap (k + 1) K = B1 at *
    generalize zap k K = B at *
    subst hst
    have hml : (B.map Cookie.v).length = B.length := List.length_map _
    repeat' (first | refine zt ?_ | (refine isR ?_; first | refine zo ?_ | refine zk c1 ?_ | refine x_stI Cookie.v (a1 := cZ) k tb_ok ?_ | refine zA ?_ | refine zL ?_ | refine zc1 ?_ | refine zI ?_ | (refine zs1 ?_ ?_ <;> intro hc)) | refine awp_split rfl (fun hb => ?_) (fun hb => ?_) | refine zr ?_ | exact x_le)
    refine ⟨by omega, hk2, ?_⟩
    exact (by exact x_len [0])
  · obtain rfl : k = K.length := by omega
    repeat' (first | refine zt ?_ | (refine isR ?_; first | refine zo ?_ | refine zA ?_ | refine zL ?_ | refine zc1 ?_ | refine zI ?_ | (refine zs1 ?_ ?_ <;> intro hc)) | refine awp_split rfl (fun hb => ?_) (fun hb => ?_) | refine x_mret [0] ?_ ?_ | refine x_mnor [0] ?_ ?_ | refine zr ?_ | exact x_le)
    · rfl
    · exact .on (.same (nl_map fun _ => rfl)) .nil
theorem hid (p : Prop) (h : p) : p := h
set_option maxRecDepth 100000 in
set_option maxHeartbeats 4000000 in
theorem untouched_m {L : List Cookie} (hL : L.length ≤ 1048576) : MCalls Tryz.prog 14 [ownT L, .fro (L.map Cookie.v)] [rC (L ++ [cR])] (.bool true) [some (rC (L ++ [cR]))] := by
  have hml : (L.map Cookie.v).length = L.length := List.length_map _
  have hq1 : (((L.map Cookie.v).length : Nat) : Int) + 1 = (((L.map Cookie.v).length + 1 : Nat) : Int) := by omega
  have hl1 : (L ++ [cR]).length = L.length + 1 := by simp
  have hg1 : (L ++ [cR])[(L.map Cookie.v).length]? = some cR := by rw [hml]; simp
  have hm1 : ((L ++ [cR]).map Cookie.v).length = L.length + 1 := by simp
  have c1 := crumb_v (n := ([114, 111, 111, 109] : List UInt8)) (p := ([47] : List UInt8)) (cr := 1) (no := 1)
  have s1 : ACalls Tryz.prog 40 [.fro (List.take (L.map Cookie.v).length (List.drop 0 ((L ++ [cR]).map Cookie.v))), .fro (L.map Cookie.v)] (.bool true) := by
    rw [tailC]
    have := LineB.sameCookies_v (L := L) (K := L)
    rw [decide_eq_true rfl] at this
    exact this
  have hq : eqF cR.v.cells cR.v.cells LineB.ekC.flds = true := by kernel_rfl
  refine mfun tb_ok Tryz.func14 rfl Tryz.ntmps14 Tryz.results14 rfl rfl rfl rfl fun N pl => ?_
  repeat' (first | refine zt ?_ | (refine isR ?_; first | refine zo ?_ | refine x_callz [0] (s1 _) ?_ (hok := (by repeat' first | exact trivial | exact rfl | exact tail_ok | exact tail_no | exact frz_map (fun _ => rfl) | constructor)) | refine x_slOt tb_ok ?_ | refine x_ldI Cookie.v (L.map Cookie.v).length tb_ok ?_ | refine zk c1 ?_ | refine zA ?_ | refine zL ?_ | refine zc5 ?_ | refine zI ?_ | refine zS ?_ | (refine zs5 ?_ ?_ <;> intro hc)) | refine awp_split rfl (fun hb => ?_) (fun hb => ?_) | refine x_mret [0] ?_ ?_ | refine x_mnor [0] ?_ ?_ | refine zr ?_ | exact x_le)
  all_goals first | rfl | exact .on (.same (nl_map fun _ => rfl)) .nil
end Go.Proofs.YtepnalbefjicgaaGreatDoor.RjL
end

section
namespace Go.Proofs.YtepnalbefjicgaaGreatDoor.RjB
open Go.RowKit Mem Abs Globs Scan JarP JarA JarB JarC JarE JarM JarU PolP PolA PolB PurA RjP RjL
open ConC (conI intsV)

def capsR : Nat → Int
  | 0 => 100
  | 4 => 50
  | _ => 60
def pR : Policy := ⟨[⟨2, ([97, 100, 95] : List UInt8), 4, 9⟩, ⟨4, ([97, 100, 115, 46, 99, 111, 109] : List UInt8), 2, 3⟩, ⟨1, ([105, 100] : List UInt8), 0, 0⟩], 1, capsR⟩
def PA (i : Nat) : Bool := i == 0 || i == 3
abbrev UA : List Int := [2, 3, 4, 9]
def P0 (_ : Nat) : Bool := false
abbrev noCV : Abs.V := .agg [.int .i64 0, .bool false, .bool false, .bool false, .bool false, .bool false, .bool false, .bool false, .bool false, .bool false, .bool false, .nils]
abbrev cA : Cookie := ⟨([97, 100, 95, 120] : List UInt8), ([55] : List UInt8), ([115, 104, 111, 112, 46, 99, 111, 109] : List UInt8), ([47, 99, 97, 114, 116] : List UInt8), false, true, false, true, 0, 5000, 1000, 1000, 1⟩
abbrev cB : Cookie := ⟨([97, 100, 95, 120] : List UInt8), ([55] : List UInt8), ([115, 104, 111, 112, 46, 99, 111, 109] : List UInt8), ([47, 99, 97, 114, 116] : List UInt8), false, true, false, true, 0, 1050, 1000, 1000, 1⟩
set_option maxRecDepth 100000 in
set_option maxHeartbeats 4000000 in
theorem rules_v : ACalls Tryz.prog 36 [] (polV pR) := by
  refine fun0 tb_ok Tryz.func36 rfl Tryz.ntmps36 Tryz.results36 fun N => ?_
  repeat' (first | refine zt ?_ | (refine isR ?_; first | refine zo ?_ | refine x_bs tb_ok ?_) | refine awp_split rfl (fun hb => ?_) (fun hb => ?_) | refine zr ?_ | exact x_le)
  all_goals rfl
set_option maxRecDepth 100000 in
set_option maxHeartbeats 4000000 in
theorem agreed_v : ACalls Tryz.prog 37 [] (conI 1000 PA UA) := by
  refine fun0 tb_ok Tryz.func37 rfl Tryz.ntmps37 Tryz.results37 fun N => ?_
  repeat' (first | refine zt ?_ | (refine isR ?_; first | refine zo ?_ | refine x_bs tb_ok ?_) | refine awp_split rfl (fun hb => ?_) (fun hb => ?_) | refine zr ?_ | exact x_le)
  all_goals rfl
theorem hP : checkP pR = 0 := by kernel_rfl
theorem hJ : checkJ [cI, cA] 2 = 0 := by kernel_rfl
theorem hR1 : codeRight pR 1000 UA = 0 := by kernel_rfl
theorem hR2 : codeRight pR 0 [] = 0 := by kernel_rfl
theorem hK1 : keptF pR PA UA 1010 [cI, cA] = [cI, cB] := by kernel_rfl
theorem hK2 : keptF pR P0 [] 1010 [cI, cA] = [cI] := by kernel_rfl
theorem hL1 : letsF pR PA UA cA = true := by kernel_rfl
theorem hL2 : letsF pR P0 [] cA = false := by kernel_rfl
theorem hC : clampF pR cA = cB := by kernel_rfl
theorem hD : ∀ c ∈ [cI, cA], c.domain.length ≤ 4398046511104 := fun c hc => by
  rcases List.mem_cons.1 hc with rfl | hc
  · decide
  · obtain rfl := List.mem_singleton.1 hc
    decide
theorem q1 : MCallsG Tryz.prog gStr 7 [jarV [cI, cA] 2, polV pR, conI 1000 PA UA, .int .i64 1010] [] (.tup [ownJ 0 2 2, .int .i64 0, .int .i64 0]) [some (rC [cI, cB])] := by
  have h := purgeOk_m (p := pR) (g := 1000) (P := PA) (U := UA) (now := 1010) (nx := 2) (L := [cI, cA]) hJ hR1 rfl hD
  rw [hK1] at h
  exact h
theorem q2 : MCallsG Tryz.prog gStr 7 [jarV [cI, cA] 2, polV pR, noCV, .int .i64 1010] [] (.tup [ownJ 0 1 2, .int .i64 1, .int .i64 0]) [some (rC [cI])] := by
  have h := purgeOk_m (p := pR) (g := 0) (P := P0) (U := []) (now := 1010) (nx := 2) (L := [cI, cA]) hJ hR2 rfl hD
  rw [hK2] at h
  exact MCallsG.nf h rfl
theorem g1 : ACallsG Tryz.prog gStr 38 [polV pR, noCV, cA.v] (.tup [c0.v, .int .i64 8]) :=
  (gateBar_v (p := pR) (g := 0) (P := P0) (U := []) (c := cA) (check_ok hP) hR2 rfl (by decide) hL2).nf rfl
theorem g2 : ACallsG Tryz.prog gStr 38 [polV pR, conI 1000 PA UA, cA.v] (.tup [cB.v, .int .i64 0]) := by
  have h := gateOk_v (p := pR) (g := 1000) (P := PA) (U := UA) (c := cA) (check_ok hP) hR1 rfl (by decide) hL1
  rw [hC] at h
  exact h
set_option maxRecDepth 100000 in
set_option maxHeartbeats 4000000 in
theorem begun_v : ACallsG Tryz.prog gStr 10 [] (.bool true) := by
  have hq : eqF cI.v.cells cI.v.cells LineB.ekC.flds = true := by kernel_rfl
  have e5 : cB.expiry = 1050 := rfl
  refine funG0 tb_ok Tryz.func10 rfl Tryz.ntmps10 Tryz.results10 fun N => ?_
  repeat' (first | refine zt ?_ | (refine isR ?_; first | refine zo ?_ | refine zk ident_v ?_ | refine zk rules_v ?_ | refine zk agreed_v ?_ | refine x_m [] [2] (q1 _) ?_ | refine x_m0 [] [2] (q1 _) ?_ | refine x_m [] [2] (q1) ?_ | refine x_m0 [] [2] (q1) ?_ | refine x_m [] [4] (q2 _) ?_ | refine x_m0 [] [4] (q2 _) ?_ | refine x_m [] [4] (q2) ?_ | refine x_m0 [] [4] (q2) ?_ | refine zk g1 ?_ | refine zk g2 ?_ | refine x_bs tb_ok ?_ | refine zL ?_ | refine zc5 ?_ | refine zI ?_ | (refine zs5 ?_ ?_ <;> intro hc)) | refine awp_split rfl (fun hb => ?_) (fun hb => ?_) | refine zr ?_ | exact x_le)
  all_goals first | rfl | (exfalso; omega)
end Go.Proofs.YtepnalbefjicgaaGreatDoor.RjB
end

section
namespace Go.Proofs.YtepnalbefjicgaaGreatDoor.RjT
open Go.RowKit Mem Abs Globs Scan JarP JarA JarB JarC JarE JarM JarU PolP PolA PolB PurA RjP RjL SortP SortW
open ConC (conI intsV)

set_option maxRecDepth 100000 in
set_option maxHeartbeats 4000000 in
theorem walk {L A B G D Z : List Cookie} {c : Cookie} {f : From} {p : Pol} {g nx now n1 e1 n2 e2 n3 q e3 : Int} {P : Nat → Bool} {U : List Int} (hL : L.length ≤ 1048576) (hA : A.length ≤ 100) (hB : B.length ≤ 100) (hG : G.length ≤ 100) (hD : D.length ≤ 100) (hZ : Z.length = L.length)
    (cp : MCalls Tryz.prog 5 [jarV L nx, c.v, .int .i64 now] [] (.tup [ownJ 0 A.length n1, .int .i64 e1]) [some (rC A)])
    (cg : MCallsG Tryz.prog gStr 6 [jarV L nx, f.v, .int .i64 now] [] (.tup [ownJ 0 B.length n2, .own 1 0 G.length, .int .i64 e2]) [some (rC B), some (rC G)])
    (cd : MCallsG Tryz.prog gStr 7 [jarV L nx, polV p, conI g P U, .int .i64 now] [] (.tup [ownJ 0 D.length n3, .int .i64 q, .int .i64 e3]) [some (rC D)])
    (cs : MCalls Tryz.prog 8 [.fro (L.map Cookie.v)] [] (.own 0 0 Z.length) [some (rC Z)]) :
    ACallsG Tryz.prog gStr 3 [jarV L nx, c.v, f.v, polV p, conI g P U, .int .i64 now] (.bool true) := by
  have cp := handPut (T := [cR]) cp
  have cg1 := handGet (T := [cR]) cg
  have cd := handPurge (T := [cR]) cd
  have cs := handSort (T := [cR]) cs
  have ct := twin_m hL
  have cu := untouched_m hL
  have b1 := JarU.begun_v
  have b2 := RjB.begun_v
  have b3 := LineD.begun_v
  have zG := scratch_m (K := G) (by omega)
  have zB := scratch_m (K := B) (by omega)
  have zA := scratch_m (K := A) (by omega)
  have zD := scratch_m (K := D) (by omega)
  have zZ := scratch_m (K := Z) (by omega)
  have sj : ACalls Tryz.prog 13 [.agg [.fro (List.take B.length (List.drop 0 (B.map Cookie.v))), .int .i64 n2], .agg [.fro (List.take B.length (List.drop 0 (B.map Cookie.v))), .int .i64 n2]] (.bool true) := by
    rw [List.drop_zero, List.take_of_length_le (by simp)]
    exact same_v
  generalize zap G.length G = G1 at *
  generalize zap B.length B = B1 at *
  generalize zap A.length A = A1 at *
  generalize zap D.length D = D1 at *
  generalize zap Z.length Z = Z1 at *
  refine funG6 tb_ok Tryz.func3 rfl Tryz.ntmps3 Tryz.results3 rfl fun N => ?_
  repeat' (first | refine zt ?_ | (refine isR ?_; first | refine zo ?_ | refine x_m [] [0] (ct _) ?_ | refine x_m0 [] [0] (ct _) ?_ | refine x_m [] [0] (ct) ?_ | refine x_m0 [] [0] (ct) ?_ | refine x_mK [0] [2] [0] (cp _) ?_ | refine x_mK0 [0] [2] [0] (cp _) ?_ | refine x_mK [0] [2] [0] (cp) ?_ | refine x_mK0 [0] [2] [0] (cp) ?_ | refine x_mK [0] [4,5] [0] (cg1 _) ?_ | refine x_mK0 [0] [4,5] [0] (cg1 _) ?_ | refine x_mK [0] [4,5] [0] (cg1) ?_ | refine x_mK0 [0] [4,5] [0] (cg1) ?_ | refine x_mK [0] [7] [0] (cd _) ?_ | refine x_mK0 [0] [7] [0] (cd _) ?_ | refine x_mK [0] [7] [0] (cd) ?_ | refine x_mK0 [0] [7] [0] (cd) ?_ | refine x_mK [0] [9] [0] (cs _) ?_ | refine x_mK0 [0] [9] [0] (cs _) ?_ | refine x_mK [0] [9] [0] (cs) ?_ | refine x_mK0 [0] [9] [0] (cs) ?_ | refine zk b1 ?_ | refine zk b2 ?_ | refine zk b3 ?_ | refine x_m [] [10,11] (cg _) ?_ | refine x_m0 [] [10,11] (cg _) ?_ | refine x_m [] [10,11] (cg) ?_ | refine x_m0 [] [10,11] (cg) ?_ | refine x_m [5] [] (zG _) ?_ | refine x_m0 [5] [] (zG _) ?_ | refine x_m [5] [] (zG) ?_ | refine x_m0 [5] [] (zG) ?_ | refine x_callz [4, 10] (sj _) ?_ | refine x_m [4] [] (zB _) ?_ | refine x_m0 [4] [] (zB _) ?_ | refine x_m [4] [] (zB) ?_ | refine x_m0 [4] [] (zB) ?_ | refine x_m [2] [] (zA _) ?_ | refine x_m0 [2] [] (zA _) ?_ | refine x_m [2] [] (zA) ?_ | refine x_m0 [2] [] (zA) ?_ | refine x_m [7] [] (zD _) ?_ | refine x_m0 [7] [] (zD _) ?_ | refine x_m [7] [] (zD) ?_ | refine x_m0 [7] [] (zD) ?_ | refine x_m [9] [] (zZ _) ?_ | refine x_m0 [9] [] (zZ _) ?_ | refine x_m [9] [] (zZ) ?_ | refine x_m0 [9] [] (zZ) ?_ | refine x_m [0] [] (cu _) ?_ | refine x_m0 [0] [] (cu _) ?_ | refine x_m [0] [] (cu) ?_ | refine x_m0 [0] [] (cu) ?_ | refine zL ?_ | refine zc5 ?_ | refine zc6 ?_ | (refine zs5 ?_ ?_ <;> intro hc) | (refine zs6 ?_ ?_ <;> intro hc)) | refine awp_split rfl (fun hb => ?_) (fun hb => ?_) | refine zr ?_ | exact x_le)
  all_goals first | rfl | (exfalso; omega)
theorem law {L : List Cookie} {c : Cookie} {f : From} {p : Pol} {g nx now : Int} {P : Nat → Bool} {U : List Int} (hL : L.length ≤ 1048576) (hd : ∀ x ∈ L, x.domain.length ≤ 1048576) :
    ACallsG Tryz.prog gStr 3 [jarV L nx, c.v, f.v, polV p, conI g P U, .int .i64 now] (.bool true) := by
  obtain ⟨A, n1, e1, hA, cp⟩ := put_any (L := L) (nx := nx) (c := c) (now := now)
  obtain ⟨B, G, n2, e2, hB, hG, cg⟩ := get_any (L := L) (nx := nx) (f := f) (now := now) fun x hx => Nat.le_trans (hd x hx) (by decide)
  obtain ⟨D, n3, q, e3, hD, cd⟩ := purge_any (L := L) (nx := nx) (p := p) (g := g) (P := P) (U := U) (now := now) fun x hx => Nat.le_trans (hd x hx) (by decide)
  exact walk hL hA hB hG hD sortF_len cp cg cd (sort_m (by omega))
end Go.Proofs.YtepnalbefjicgaaGreatDoor.RjT
end
