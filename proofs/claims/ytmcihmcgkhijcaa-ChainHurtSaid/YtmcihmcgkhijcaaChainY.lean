/- The walk of the law ChainHurt. -/
import Derived.Test.YtmcihmcgkhijcaaChainX
import Derived.Test.YtmcihmcgkhijcaaChainV
import Derived.Test.YtmcihmcgkhijcaaSeq
import Derived.IntWalk
import Derived.Test.YtmcihmcgkhijcaaMem
namespace Go.Proofs.Ytmcihmcgkhijcaa.ChainY
open Go.RowKit ChainW ChainH ChainR ChainD ChainS ChainE ChainB ChainT ChainP ChainA ChainX Mem

set_option maxHeartbeats 1000000 in
theorem chainHurt_out (A : Option Addr) (c : Nat) (L : List ByteArray) (s : ByteArray) (at' : Int) (u : UInt8) (w : World) (h : decide (at' < 0) = true ∨ (decide (at' < 0) = false ∧ decide ((s.size : Int) ≤ at') = true)) :
    Calls Try.prog 9 #[.slice A L.length c, .string s, .int .i64 at', .int .u8 u.toNat] w (fun e w' => e = .returned (.bool true) ∧ Below w.heap.size w w') := by
  rcases h with h | ⟨h1, h2⟩
  all_goals
    go_enter Try.func9, Try.ntmps9
    go_wp2_with fail
    refine (chainBegun_any w).mono ?_
    rintro e w5 ⟨rfl, B5⟩
    go_wp2_with fail
    go_ret
    exact ⟨rfl, B5⟩

theorem elemStr : Elem Try.prog 27 9 1 16 := Elem.mk Try.underlying27 (by kernel_rfl : (Try.prog.info? 9).map (fun i => (i.zero, i.size, i.bytes)) = some (some (.string ⟨#[]⟩), 1, 16)) rfl (by decide)
theorem strs_row {w : World} {B : Nat} {A : Option Addr} {L : List ByteArray} (h : Strs w B A L) : Row w B A (L.map Value.string) := fun hl => by
  obtain ⟨b, o, e, hlt, hc⟩ := h (by simpa using hl)
  exact ⟨b, o, e, hlt, fun j hj => by rw [hc j (by simpa using hj)]; simp⟩
theorem cut_at (s : ByteArray) (n : Nat) (hn : n < s.size) (u : UInt8) : s.data.toList = s.data.toList.take n ++ s[n] :: s.data.toList.drop (n + 1) ∧ (s.extract 0 n ++ ⟨#[u]⟩ ++ s.extract (n + 1) s.size).data.toList = s.data.toList.take n ++ u :: s.data.toList.drop (n + 1) := by
  have hd : s.data.toList.drop n = s[n] :: s.data.toList.drop (n + 1) := List.drop_eq_getElem_cons (by simpa using hn)
  constructor
  · rw [← hd, List.take_append_drop]
  · simp [ByteArray.data_append, ByteArray.data_extract]
    exact List.take_of_length_le (by simp)
set_option maxHeartbeats 4000000 in
theorem chainHurt_in (A : Option Addr) (c : Nat) (L : List ByteArray) (s : ByteArray) (n : Nat) (hn : n < s.size) (u : UInt8) (hs : s.size ≤ 140737488351232) (w : World) (H : HS w A c L) :
    Calls Try.prog 9 #[.slice A L.length c, .string s, .int .i64 n, .int .u8 u.toNat] w (fun e w' => e = .returned (.bool true) ∧ Below w.heap.size w w') := by
  have k1 : decide ((n : Int) < 0) = false := by simp
  have k2 : decide ((s.size : Int) ≤ (n : Int)) = false := by simp; omega
  go_enter Try.func9, Try.ntmps9
  go_wp2_with fail
  refine (chainBegun_any w).mono ?_
  rintro e w0 ⟨rfl, B0⟩
  go_wp2_with (first
    | (at_builtin
       refine wpList_append_strs rfl _ _ rfl w0.heap.size _ 0 [] rfl (World.ownsRow_lit w0 #[] 0 (Nat.le_refl _) (by decide) rfl) A c L w.heap.size rfl (H.s.below (B0.alloc B0.size _)) H.nil (by have := H.m; omega) (by simp) ?_
       intro v1 w1 o1 g1
       have b1 : Below w0.heap.size w0 w1 := ((Below.refl _ w0).alloc (Nat.le_refl _) _).grown g1 (by simp) (fun k e => by cases e; exact Nat.le_refl _))
    | (at_builtin
       refine wpList_append_strs rfl _ _ rfl w0.heap.size v1 (0 + L.length) _ rfl (o1.alloc _) (some ⟨w1.heap.size, 0, none⟩) 1 [s] (w1.heap.size + 1) rfl (strs_lit w1 9 [s] _ (by omega)) (fun e => by cases e) (by have := H.m; simp; omega) (by have := b1.size; simp; omega) ?_
       intro v2 w2 o2 g2
       have b2 : Below w0.heap.size w0 w2 := (b1.alloc b1.size _).grown g2 (by have := b1.size; simp; omega) (fun k e => (o1.lt k e).1)))
  have hn1 : n ≤ s.size := by omega
  have hn2 : n + 1 ≤ s.size := by omega
  have hw1 : IntKind.i64.wrap ((n : Int) + 1) = (n : Int) + 1 := IntWalk.i64_in _ (by omega)
  have hw2 : (0 : Int) ≤ (n : Int) + 1 := by omega
  have hw3 : (n : Int) + 1 ≤ (s.size : Int) := by omega
  have hw4 : ((n : Int) + 1).toNat = n + 1 := by omega
  refine Seq.region_seq (S := fun w' => Below w2.heap.size w2 w')
    [(1, false), (3, false), (4, false), (5, false), (6, false), (9, false), (10, false), (11, false), (12, false), (0, true), (2, true), (7, true), (8, false), (13, false), (14, true), (15, true), (16, false)]
    (by kernel_rfl) (by kernel_rfl) (fun _ _ d _ _ h => by cases d <;> exact h) (Below.refl _ _).drew ?_
  simp only [Seq.lay, List.getElem?_cons_zero, List.getElem?_cons_succ]
  repeat (first
    | (refine Seq.seq_read (v := ?_) (by rfl) ?_ ?_
       rotate_left
       · (intro w' hS; go_simp; with_reducible rfl)
       simp only [Act.put, List.setIfInBounds_toArray, List.set_cons_zero, List.set_cons_succ]))
  refine Seq.seq_do (by rfl) (fun K hK => ?_)
  go_simp
  have S1 : Below w2.heap.size w2 (w2.alloc (.cells #[] 9)).drew := ((Below.refl _ w2).alloc (Nat.le_refl _) _).drew
  refine hK _ _ S1 ?_
  clear hK K
  refine Seq.seq_do (by rfl) (fun K hK => ?_)
  refine wp_app elemStr (.tmp 27) (.tmp 28) rfl w2.heap.size _ 0 [] rfl (World.ownsRow_lit w2 #[] 0 (Nat.le_refl _) (by decide) rfl) A L.length c (L.map Value.string) w.heap.size rfl (by simp) ((strs_row H.s).below ((below_cat B0 b2).trans (S1.mono (below_cat B0 b2).size))) (by simp [Value.oneCell']) H.nil (by have := H.m; omega) (by have := H.m; omega) (by simp) ?_
  intro v3 w3 o3 g3
  have S3 : Below w2.heap.size w2 w3 := S1.grown g3 S1.size (fun k e => by cases e; exact Nat.le_refl _)
  refine hK _ _ S3 ?_
  clear hK K S1 g3
  refine Seq.seq_do (by rfl) (fun K hK => ?_)
  go_simp
  refine (byteText_any u _).mono ?_
  rintro e w4 ⟨rfl, hb4⟩
  have S4 := below_cat S3 hb4
  have o4 := Mem.own_below o3 hb4
  refine hK _ _ S4 ?_
  clear hK K S3 hb4 o3
  have hw5 : ¬ 9223372036854775807 < n + 1 := by omega
  have hw6 : ¬ 9223372036854775807 < s.size := by omega
  repeat (first
    | (refine Seq.seq_read (v := ?_) (by rfl) ?_ ?_
       rotate_left
       · (intro w' hS; go_simp; with_reducible rfl)
       simp only [Act.put, List.setIfInBounds_toArray, List.set_cons_zero, List.set_cons_succ]))
  refine Seq.seq_do (by rfl) (fun K hK => ?_)
  go_simp
  have S5 := below_new S4 (.cells #[.string (s.extract 0 n ++ ⟨#[u]⟩ ++ s.extract (n + 1) s.size)] 9)
  refine hK _ _ S5 ?_
  clear hK K
  obtain ⟨hts, htt⟩ := cut_at s n hn u
  have hzt : (s.extract 0 n ++ ⟨#[u]⟩ ++ s.extract (n + 1) s.size).size ≤ 140737488351232 := by
    have h3 := Lib.size_eq (s.extract 0 n ++ ⟨#[u]⟩ ++ s.extract (n + 1) s.size); rw [htt] at h3; rw [h3]; simp; omega
  generalize s.extract 0 n ++ ⟨#[u]⟩ ++ s.extract (n + 1) s.size = t at S5 htt hzt ⊢
  have HU := Lib.hid (fun e1 => head_hurt L _ _ s[n] u s t hts e1)
  have HV := HU.out htt
  clear HU hts htt
  refine Seq.seq_do (by rfl) (fun K hK => ?_)
  refine wp_app elemStr (.tmp 29) (.tmp 41) rfl w2.heap.size v3 (0 + L.length) _ rfl (o4.alloc _) (some ⟨w4.heap.size, 0, none⟩) 1 1 [.string t] (w4.heap.size + 1) rfl rfl (Row.lit w4 _ [.string t] _ (by omega)) (by simp [Value.oneCell']) (fun e => by cases e) (by have := H.m; omega) (by have := H.m; omega) S5.size ?_
  intro v5 w5 o5 g5
  have S6 : Below w2.heap.size w2 w5 := S5.grown g5 S5.size (fun k e => (o4.lt k e).1)
  refine hK _ _ S6 ?_
  clear hK K S5 g5 o4
  refine Seq.seq_read (v := ?_) (by rfl) ?_ ?_
  rotate_left
  · intro w' _; go_simp; with_reducible rfl
  simp only [Act.put, List.setIfInBounds_toArray, List.set_cons_zero, List.set_cons_succ]
  refine Seq.seq_nil ?_
  obtain ⟨Ax, cx, rfl, nx, hX⟩ := own_strs (L := L ++ [s]) o2 (by simp)
  obtain ⟨Ay, cy, rfl, ny, hY⟩ := own_strs (L := L ++ [t]) o5 (by simp)
  have zX : ∀ y ∈ L ++ [s], y.size ≤ 140737488351232 := fun y hy => by
    rcases List.mem_append.1 hy with h | h
    · exact H.z y h
    · simp at h; subst h; exact hs
  have zY : ∀ y ∈ L ++ [t], y.size ≤ 140737488351232 := fun y hy => by
    rcases List.mem_append.1 hy with h | h
    · exact H.z y h
    · simp at h; subst h; exact hzt
  have b4 := below_cat (below_cat B0 b2) S6
  have CX0 := (fun w' (hb : Below w5.heap.size w5 w') => head_any Ax cx (L ++ [s]) w' (((hX.below S6).more S6.size).below hb |>.more hb.size) (by have := H.m; simp; omega) zX)
  have CY0 := (fun w' (hb : Below w5.heap.size w5 w') => head_any Ay cy (L ++ [t]) w' ((hY.below hb).more hb.size) (by have := H.m; simp; omega) zY)
  simp only [List.length_append, List.length_cons, List.length_nil, Nat.zero_add] at CX0 CY0
  have CX := Lib.hid CX0
  have CY := Lib.hid CY0
  clear CX0 CY0 H hX hY zX zY o1 o2 o5 g1 g2 S6 b1 b2 B0 nx ny
  generalize head (L ++ [s]) = fx at CX HV
  generalize head (L ++ [t]) = fy at CY HV
  have HW := Lib.hid HV
  clear HV
  go_wp2_with fail
  refine Seq.region_seq (S := fun w' => Below w5.heap.size w5 w')
    [(0, false), (2, false), (5, false), (6, false), (7, false), (8, false), (9, false), (1, true), (3, true), (4, false), (10, false), (11, false)]
    (by kernel_rfl) (by kernel_rfl) (fun _ _ d _ _ h => by cases d <;> exact h) (Below.refl _ _).drew ?_
  simp only [Seq.lay, List.getElem?_cons_zero, List.getElem?_cons_succ]
  repeat (first
    | (refine Seq.seq_read (v := ?_) (by rfl) ?_ ?_
       rotate_left
       · (intro w' hS; go_simp; with_reducible rfl)
       simp only [Act.put, List.setIfInBounds_toArray, List.set_cons_zero, List.set_cons_succ]))
  refine Seq.seq_do (by rfl) (fun K hK => ?_)
  go_simp
  refine (CX.out _ (Below.refl _ _).drew).mono ?_
  rintro e w6 ⟨rfl, hb⟩
  have S6 : Below w5.heap.size w5 w6 := (Below.refl _ _).drew.trans hb
  refine hK _ _ S6 ?_
  clear hK K hb
  refine Seq.seq_do (by rfl) (fun K hK => ?_)
  go_simp
  refine (CY.out _ S6).mono ?_
  rintro e w7 ⟨rfl, hb⟩
  have S7 := below_cat S6 hb
  refine hK _ _ S7 ?_
  clear hK K hb
  repeat (first
    | (refine Seq.seq_read (v := ?_) (by rfl) ?_ ?_
       rotate_left
       · (intro w' hS; go_simp; with_reducible rfl)
       simp only [Act.put, List.setIfInBounds_toArray, List.set_cons_zero, List.set_cons_succ]))
  refine Seq.seq_nil ?_
  go_wp2_with fail
  have fin : ((((fx : Nat) : Int) == ((fy : Nat) : Int)) == (((s[n].toNat : Nat) : Int) == ((u.toNat : Nat) : Int))) = true := by
    rw [beq_iff_eq, Bool.eq_iff_iff, beq_iff_eq, beq_iff_eq]
    exact ⟨fun e => by rw [HW.out.1 (by omega)], fun e => by rw [HW.out.2 (UInt8.toNat_inj.1 (by omega))]⟩
  go_ret
  refine ⟨?_, below_cat b4 S7⟩
  exact congrArg (fun b => Ending.returned (Value.bool b)) fin
theorem chainHurt_any (A : Option Addr) (c : Nat) (L : List ByteArray) (s : ByteArray) (at' : Int) (u : UInt8) (hs : s.size ≤ 140737488351232) (w : World) (H : HS w A c L) :
    Calls Try.prog 9 #[.slice A L.length c, .string s, .int .i64 at', .int .u8 u.toNat] w (fun e w' => e = .returned (.bool true) ∧ Below w.heap.size w w') := by
  by_cases h1 : at' < 0
  · exact chainHurt_out A c L s at' u w (.inl (decide_eq_true h1))
  · by_cases h2 : (s.size : Int) ≤ at'
    · exact chainHurt_out A c L s at' u w (.inr ⟨decide_eq_false h1, decide_eq_true h2⟩)
    · obtain ⟨n, rfl⟩ := Int.eq_ofNat_of_zero_le (show 0 ≤ at' by omega)
      exact chainHurt_in A c L s n (by omega) u hs w H
theorem chainHurt_int (A : Option Addr) (c : Nat) (L : List ByteArray) (s : ByteArray) (at' b : Int) (hb0 : 0 ≤ b) (hb1 : b < 256) (hs : s.size ≤ 140737488351232) (w : World) (H : HS w A c L) :
    Calls Try.prog 9 #[.slice A L.length c, .string s, .int .i64 at', .int .u8 b] w (fun e w' => e = .returned (.bool true) ∧ Below w.heap.size w w') := by
  have e : b = ((UInt8.ofNat b.toNat).toNat : Int) := by rw [UInt8.toNat_ofNat']; omega
  rw [e]
  exact chainHurt_any A c L s at' _ hs w H
end Go.Proofs.Ytmcihmcgkhijcaa.ChainY
