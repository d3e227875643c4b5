/- The walk of the reference's MomentOf. -/
import Derived.Test.YtaojlikkaajpmaaClockR
import Derived.Test.YtaojlikkaajpmaaSeq
namespace Go.Proofs.Ytaojlikkaajpmaa.ClockM
open Go.RowKit ClockP ClockW ClockO ClockR

theorem tup {k j : IntKind} {a b c d : Int} (h : a = b) (h2 : c = d) : Value.tuple #[.int k a, .int j c] = .tuple #[.int k b, .int j d] := by rw [h, h2]
theorem below_next {w w1 wx : World} {o : Obj} (hb : Below wx.heap.size wx w1) (h : Below (w.heap.size + 1) (w.alloc o) wx) : Below (w.heap.size + 1) (w.alloc o) w1 := h.trans (hb.mono (by have := h.size; simpa using this))

set_option maxHeartbeats 1000000 in
theorem momentOf_0 (y m d h mi s : Int) (w : World) (t0 : decide (y < 1601) = true) (no : Hid (¬ right y m d h mi s)) :
    Calls Try.prog 33 #[.agg #[.int .i64 y, .int .i64 m, .int .i64 d, .int .i64 h, .int .i64 mi, .int .i64 s]] w (OfPost y m d h mi s w) := by
  go_enter Try.func33, Try.ntmps33
  go_wp2_with fail
  have hS0 : Below (w.heap.size + 1) (w.alloc (.cells #[.int .i64 y, .int .i64 m, .int .i64 d, .int .i64 h, .int .i64 mi, .int .i64 s] 47)) (w.alloc (.cells #[.int .i64 y, .int .i64 m, .int .i64 d, .int .i64 h, .int .i64 mi, .int .i64 s] 47)).drew := ⟨rfl, rfl, rfl, by simp, fun _ _ => rfl⟩
  refine Seq.region_seq (S := fun w' => Below (w.heap.size + 1) (w.alloc (.cells #[.int .i64 y, .int .i64 m, .int .i64 d, .int .i64 h, .int .i64 mi, .int .i64 s] 47)) w')
    [(0, false), (1, false), (2, false), (3, false), (4, false), (5, false), (6, false), (7, false), (8, false), (9, false), (10, false), (11, false), (12, false), (13, false), (14, false), (15, false), (16, false), (17, false), (18, false), (19, false), (20, true), (21, false), (22, false), (23, false), (24, false), (25, false), (26, false), (27, false), (28, false), (29, false), (30, false), (31, false), (32, false), (33, false), (34, false), (35, false), (36, false), (37, false), (38, false), (39, false), (40, false), (41, false), (42, false), (43, false), (44, false), (45, false), (46, false), (47, false), (48, false), (49, false), (50, false), (51, false), (52, false)]
    (by kernel_rfl) (by kernel_rfl) (fun _ _ d _ _ h => by cases d <;> exact h) hS0 ?_
  simp only [Seq.lay, List.getElem?_cons_zero, List.getElem?_cons_succ]
  repeat (first
    | (refine Seq.seq_skip (by rfl) ?_
       simp only [Act.put, List.setIfInBounds_toArray, List.set_cons_zero, List.set_cons_succ])
    | (refine Seq.seq_read (v := ?_) (by rfl) ?_ ?_
       rotate_left
       · (intro w' hS; have hc := (bcell hS).1; go_simp; with_reducible rfl)
       simp only [Act.put, List.setIfInBounds_toArray, List.set_cons_zero, List.set_cons_succ])
    | (refine Seq.seq_off (by rfl) hS0 ?_
       simp only [Act.put, List.setIfInBounds_toArray, List.set_cons_zero, List.set_cons_succ])
    | (refine Seq.seq_do (by rfl) (fun K hK => ?_)
       go_simp
       refine (monthDays_any _ _ _).mono ?_
       rintro e w1 ⟨rfl, hb1⟩
       have hS1 := below_next hb1 hS0
       refine hK _ _ hS1 ?_
       clear hK K
       try simp only [Act.put, List.setIfInBounds_toArray, List.set_cons_zero, List.set_cons_succ]))
  refine Seq.seq_nil ?_
  go_wp2_with fail
  go_ret2
  exact no_ans no.out (below_up hS0)

set_option maxHeartbeats 1000000 in
theorem momentOf_1 (y m d h mi s : Int) (w : World) (t0 : decide (y < 1601) = false) (t1 : decide (9999 < y) = true) (no : Hid (¬ right y m d h mi s)) :
    Calls Try.prog 33 #[.agg #[.int .i64 y, .int .i64 m, .int .i64 d, .int .i64 h, .int .i64 mi, .int .i64 s]] w (OfPost y m d h mi s w) := by
  go_enter Try.func33, Try.ntmps33
  go_wp2_with fail
  have hS0 : Below (w.heap.size + 1) (w.alloc (.cells #[.int .i64 y, .int .i64 m, .int .i64 d, .int .i64 h, .int .i64 mi, .int .i64 s] 47)) (w.alloc (.cells #[.int .i64 y, .int .i64 m, .int .i64 d, .int .i64 h, .int .i64 mi, .int .i64 s] 47)).drew := ⟨rfl, rfl, rfl, by simp, fun _ _ => rfl⟩
  refine Seq.region_seq (S := fun w' => Below (w.heap.size + 1) (w.alloc (.cells #[.int .i64 y, .int .i64 m, .int .i64 d, .int .i64 h, .int .i64 mi, .int .i64 s] 47)) w')
    [(0, false), (1, false), (2, false), (3, false), (4, false), (5, false), (6, false), (7, false), (8, false), (9, false), (10, false), (11, false), (12, false), (13, false), (14, false), (15, false), (16, false), (17, false), (18, false), (19, false), (20, true), (21, false), (22, false), (23, false), (24, false), (25, false), (26, false), (27, false), (28, false), (29, false), (30, false), (31, false), (32, false), (33, false), (34, false), (35, false), (36, false), (37, false), (38, false), (39, false), (40, false), (41, false), (42, false), (43, false), (44, false), (45, false), (46, false), (47, false), (48, false), (49, false), (50, false), (51, false), (52, false)]
    (by kernel_rfl) (by kernel_rfl) (fun _ _ d _ _ h => by cases d <;> exact h) hS0 ?_
  simp only [Seq.lay, List.getElem?_cons_zero, List.getElem?_cons_succ]
  repeat (first
    | (refine Seq.seq_skip (by rfl) ?_
       simp only [Act.put, List.setIfInBounds_toArray, List.set_cons_zero, List.set_cons_succ])
    | (refine Seq.seq_read (v := ?_) (by rfl) ?_ ?_
       rotate_left
       · (intro w' hS; have hc := (bcell hS).1; go_simp; with_reducible rfl)
       simp only [Act.put, List.setIfInBounds_toArray, List.set_cons_zero, List.set_cons_succ])
    | (refine Seq.seq_off (by rfl) hS0 ?_
       simp only [Act.put, List.setIfInBounds_toArray, List.set_cons_zero, List.set_cons_succ])
    | (refine Seq.seq_do (by rfl) (fun K hK => ?_)
       go_simp
       refine (monthDays_any _ _ _).mono ?_
       rintro e w1 ⟨rfl, hb1⟩
       have hS1 := below_next hb1 hS0
       refine hK _ _ hS1 ?_
       clear hK K
       try simp only [Act.put, List.setIfInBounds_toArray, List.set_cons_zero, List.set_cons_succ]))
  refine Seq.seq_nil ?_
  go_wp2_with fail
  go_ret2
  exact no_ans no.out (below_up hS0)

set_option maxHeartbeats 1000000 in
theorem momentOf_2 (y m d h mi s : Int) (w : World) (t0 : decide (y < 1601) = false) (t1 : decide (9999 < y) = false) (t2 : decide (d < 1) = true) (no : Hid (¬ right y m d h mi s)) :
    Calls Try.prog 33 #[.agg #[.int .i64 y, .int .i64 m, .int .i64 d, .int .i64 h, .int .i64 mi, .int .i64 s]] w (OfPost y m d h mi s w) := by
  go_enter Try.func33, Try.ntmps33
  go_wp2_with fail
  have hS0 : Below (w.heap.size + 1) (w.alloc (.cells #[.int .i64 y, .int .i64 m, .int .i64 d, .int .i64 h, .int .i64 mi, .int .i64 s] 47)) (w.alloc (.cells #[.int .i64 y, .int .i64 m, .int .i64 d, .int .i64 h, .int .i64 mi, .int .i64 s] 47)).drew := ⟨rfl, rfl, rfl, by simp, fun _ _ => rfl⟩
  refine Seq.region_seq (S := fun w' => Below (w.heap.size + 1) (w.alloc (.cells #[.int .i64 y, .int .i64 m, .int .i64 d, .int .i64 h, .int .i64 mi, .int .i64 s] 47)) w')
    [(0, false), (1, false), (2, false), (3, false), (4, false), (5, false), (6, false), (7, false), (8, false), (9, false), (10, false), (11, false), (12, false), (13, false), (14, false), (15, false), (16, false), (17, false), (18, false), (19, false), (20, true), (21, false), (22, false), (23, false), (24, false), (25, false), (26, false), (27, false), (28, false), (29, false), (30, false), (31, false), (32, false), (33, false), (34, false), (35, false), (36, false), (37, false), (38, false), (39, false), (40, false), (41, false), (42, false), (43, false), (44, false), (45, false), (46, false), (47, false), (48, false), (49, false), (50, false), (51, false), (52, false)]
    (by kernel_rfl) (by kernel_rfl) (fun _ _ d _ _ h => by cases d <;> exact h) hS0 ?_
  simp only [Seq.lay, List.getElem?_cons_zero, List.getElem?_cons_succ]
  repeat (first
    | (refine Seq.seq_skip (by rfl) ?_
       simp only [Act.put, List.setIfInBounds_toArray, List.set_cons_zero, List.set_cons_succ])
    | (refine Seq.seq_read (v := ?_) (by rfl) ?_ ?_
       rotate_left
       · (intro w' hS; have hc := (bcell hS).1; go_simp; with_reducible rfl)
       simp only [Act.put, List.setIfInBounds_toArray, List.set_cons_zero, List.set_cons_succ])
    | (refine Seq.seq_off (by rfl) hS0 ?_
       simp only [Act.put, List.setIfInBounds_toArray, List.set_cons_zero, List.set_cons_succ])
    | (refine Seq.seq_do (by rfl) (fun K hK => ?_)
       go_simp
       refine (monthDays_any _ _ _).mono ?_
       rintro e w1 ⟨rfl, hb1⟩
       have hS1 := below_next hb1 hS0
       refine hK _ _ hS1 ?_
       clear hK K
       try simp only [Act.put, List.setIfInBounds_toArray, List.set_cons_zero, List.set_cons_succ]))
  refine Seq.seq_nil ?_
  go_wp2_with fail
  go_ret2
  exact no_ans no.out (below_up hS0)

set_option maxHeartbeats 1000000 in
theorem momentOf_3 (y m d h mi s : Int) (w : World) (t0 : decide (y < 1601) = false) (t1 : decide (9999 < y) = false) (t2 : decide (d < 1) = false) (t3 : decide (mlen y m < d) = true) (no : Hid (¬ right y m d h mi s)) :
    Calls Try.prog 33 #[.agg #[.int .i64 y, .int .i64 m, .int .i64 d, .int .i64 h, .int .i64 mi, .int .i64 s]] w (OfPost y m d h mi s w) := by
  go_enter Try.func33, Try.ntmps33
  go_wp2_with fail
  have hS0 : Below (w.heap.size + 1) (w.alloc (.cells #[.int .i64 y, .int .i64 m, .int .i64 d, .int .i64 h, .int .i64 mi, .int .i64 s] 47)) (w.alloc (.cells #[.int .i64 y, .int .i64 m, .int .i64 d, .int .i64 h, .int .i64 mi, .int .i64 s] 47)).drew := ⟨rfl, rfl, rfl, by simp, fun _ _ => rfl⟩
  refine Seq.region_seq (S := fun w' => Below (w.heap.size + 1) (w.alloc (.cells #[.int .i64 y, .int .i64 m, .int .i64 d, .int .i64 h, .int .i64 mi, .int .i64 s] 47)) w')
    [(0, false), (1, false), (2, false), (3, false), (4, false), (5, false), (6, false), (7, false), (8, false), (9, false), (10, false), (11, false), (12, false), (13, false), (14, false), (15, false), (16, false), (17, false), (18, false), (19, false), (20, true), (21, false), (22, false), (23, false), (24, false), (25, false), (26, false), (27, false), (28, false), (29, false), (30, false), (31, false), (32, false), (33, false), (34, false), (35, false), (36, false), (37, false), (38, false), (39, false), (40, false), (41, false), (42, false), (43, false), (44, false), (45, false), (46, false), (47, false), (48, false), (49, false), (50, false), (51, false), (52, false)]
    (by kernel_rfl) (by kernel_rfl) (fun _ _ d _ _ h => by cases d <;> exact h) hS0 ?_
  simp only [Seq.lay, List.getElem?_cons_zero, List.getElem?_cons_succ]
  repeat (first
    | (refine Seq.seq_skip (by rfl) ?_
       simp only [Act.put, List.setIfInBounds_toArray, List.set_cons_zero, List.set_cons_succ])
    | (refine Seq.seq_read (v := ?_) (by rfl) ?_ ?_
       rotate_left
       · (intro w' hS; have hc := (bcell hS).1; go_simp; with_reducible rfl)
       simp only [Act.put, List.setIfInBounds_toArray, List.set_cons_zero, List.set_cons_succ])
    | (refine Seq.seq_off (by rfl) hS0 ?_
       simp only [Act.put, List.setIfInBounds_toArray, List.set_cons_zero, List.set_cons_succ])
    | (refine Seq.seq_do (by rfl) (fun K hK => ?_)
       go_simp
       refine (monthDays_any _ _ _).mono ?_
       rintro e w1 ⟨rfl, hb1⟩
       have hS1 := below_next hb1 hS0
       refine hK _ _ hS1 ?_
       clear hK K
       try simp only [Act.put, List.setIfInBounds_toArray, List.set_cons_zero, List.set_cons_succ]))
  refine Seq.seq_nil ?_
  go_wp2_with fail
  go_ret2
  exact no_ans no.out (below_up hS1)

set_option maxHeartbeats 1000000 in
theorem momentOf_4 (y m d h mi s : Int) (w : World) (t0 : decide (y < 1601) = false) (t1 : decide (9999 < y) = false) (t2 : decide (d < 1) = false) (t3 : decide (mlen y m < d) = false) (t4 : decide (h < 0) = true) (no : Hid (¬ right y m d h mi s)) :
    Calls Try.prog 33 #[.agg #[.int .i64 y, .int .i64 m, .int .i64 d, .int .i64 h, .int .i64 mi, .int .i64 s]] w (OfPost y m d h mi s w) := by
  go_enter Try.func33, Try.ntmps33
  go_wp2_with fail
  have hS0 : Below (w.heap.size + 1) (w.alloc (.cells #[.int .i64 y, .int .i64 m, .int .i64 d, .int .i64 h, .int .i64 mi, .int .i64 s] 47)) (w.alloc (.cells #[.int .i64 y, .int .i64 m, .int .i64 d, .int .i64 h, .int .i64 mi, .int .i64 s] 47)).drew := ⟨rfl, rfl, rfl, by simp, fun _ _ => rfl⟩
  refine Seq.region_seq (S := fun w' => Below (w.heap.size + 1) (w.alloc (.cells #[.int .i64 y, .int .i64 m, .int .i64 d, .int .i64 h, .int .i64 mi, .int .i64 s] 47)) w')
    [(0, false), (1, false), (2, false), (3, false), (4, false), (5, false), (6, false), (7, false), (8, false), (9, false), (10, false), (11, false), (12, false), (13, false), (14, false), (15, false), (16, false), (17, false), (18, false), (19, false), (20, true), (21, false), (22, false), (23, false), (24, false), (25, false), (26, false), (27, false), (28, false), (29, false), (30, false), (31, false), (32, false), (33, false), (34, false), (35, false), (36, false), (37, false), (38, false), (39, false), (40, false), (41, false), (42, false), (43, false), (44, false), (45, false), (46, false), (47, false), (48, false), (49, false), (50, false), (51, false), (52, false)]
    (by kernel_rfl) (by kernel_rfl) (fun _ _ d _ _ h => by cases d <;> exact h) hS0 ?_
  simp only [Seq.lay, List.getElem?_cons_zero, List.getElem?_cons_succ]
  repeat (first
    | (refine Seq.seq_skip (by rfl) ?_
       simp only [Act.put, List.setIfInBounds_toArray, List.set_cons_zero, List.set_cons_succ])
    | (refine Seq.seq_read (v := ?_) (by rfl) ?_ ?_
       rotate_left
       · (intro w' hS; have hc := (bcell hS).1; go_simp; with_reducible rfl)
       simp only [Act.put, List.setIfInBounds_toArray, List.set_cons_zero, List.set_cons_succ])
    | (refine Seq.seq_off (by rfl) hS0 ?_
       simp only [Act.put, List.setIfInBounds_toArray, List.set_cons_zero, List.set_cons_succ])
    | (refine Seq.seq_do (by rfl) (fun K hK => ?_)
       go_simp
       refine (monthDays_any _ _ _).mono ?_
       rintro e w1 ⟨rfl, hb1⟩
       have hS1 := below_next hb1 hS0
       refine hK _ _ hS1 ?_
       clear hK K
       try simp only [Act.put, List.setIfInBounds_toArray, List.set_cons_zero, List.set_cons_succ]))
  refine Seq.seq_nil ?_
  go_wp2_with fail
  go_ret2
  exact no_ans no.out (below_up hS1)

set_option maxHeartbeats 1000000 in
theorem momentOf_5 (y m d h mi s : Int) (w : World) (t0 : decide (y < 1601) = false) (t1 : decide (9999 < y) = false) (t2 : decide (d < 1) = false) (t3 : decide (mlen y m < d) = false) (t4 : decide (h < 0) = false) (t5 : decide (23 < h) = true) (no : Hid (¬ right y m d h mi s)) :
    Calls Try.prog 33 #[.agg #[.int .i64 y, .int .i64 m, .int .i64 d, .int .i64 h, .int .i64 mi, .int .i64 s]] w (OfPost y m d h mi s w) := by
  go_enter Try.func33, Try.ntmps33
  go_wp2_with fail
  have hS0 : Below (w.heap.size + 1) (w.alloc (.cells #[.int .i64 y, .int .i64 m, .int .i64 d, .int .i64 h, .int .i64 mi, .int .i64 s] 47)) (w.alloc (.cells #[.int .i64 y, .int .i64 m, .int .i64 d, .int .i64 h, .int .i64 mi, .int .i64 s] 47)).drew := ⟨rfl, rfl, rfl, by simp, fun _ _ => rfl⟩
  refine Seq.region_seq (S := fun w' => Below (w.heap.size + 1) (w.alloc (.cells #[.int .i64 y, .int .i64 m, .int .i64 d, .int .i64 h, .int .i64 mi, .int .i64 s] 47)) w')
    [(0, false), (1, false), (2, false), (3, false), (4, false), (5, false), (6, false), (7, false), (8, false), (9, false), (10, false), (11, false), (12, false), (13, false), (14, false), (15, false), (16, false), (17, false), (18, false), (19, false), (20, true), (21, false), (22, false), (23, false), (24, false), (25, false), (26, false), (27, false), (28, false), (29, false), (30, false), (31, false), (32, false), (33, false), (34, false), (35, false), (36, false), (37, false), (38, false), (39, false), (40, false), (41, false), (42, false), (43, false), (44, false), (45, false), (46, false), (47, false), (48, false), (49, false), (50, false), (51, false), (52, false)]
    (by kernel_rfl) (by kernel_rfl) (fun _ _ d _ _ h => by cases d <;> exact h) hS0 ?_
  simp only [Seq.lay, List.getElem?_cons_zero, List.getElem?_cons_succ]
  repeat (first
    | (refine Seq.seq_skip (by rfl) ?_
       simp only [Act.put, List.setIfInBounds_toArray, List.set_cons_zero, List.set_cons_succ])
    | (refine Seq.seq_read (v := ?_) (by rfl) ?_ ?_
       rotate_left
       · (intro w' hS; have hc := (bcell hS).1; go_simp; with_reducible rfl)
       simp only [Act.put, List.setIfInBounds_toArray, List.set_cons_zero, List.set_cons_succ])
    | (refine Seq.seq_off (by rfl) hS0 ?_
       simp only [Act.put, List.setIfInBounds_toArray, List.set_cons_zero, List.set_cons_succ])
    | (refine Seq.seq_do (by rfl) (fun K hK => ?_)
       go_simp
       refine (monthDays_any _ _ _).mono ?_
       rintro e w1 ⟨rfl, hb1⟩
       have hS1 := below_next hb1 hS0
       refine hK _ _ hS1 ?_
       clear hK K
       try simp only [Act.put, List.setIfInBounds_toArray, List.set_cons_zero, List.set_cons_succ]))
  refine Seq.seq_nil ?_
  go_wp2_with fail
  go_ret2
  exact no_ans no.out (below_up hS1)

set_option maxHeartbeats 1000000 in
theorem momentOf_6 (y m d h mi s : Int) (w : World) (t0 : decide (y < 1601) = false) (t1 : decide (9999 < y) = false) (t2 : decide (d < 1) = false) (t3 : decide (mlen y m < d) = false) (t4 : decide (h < 0) = false) (t5 : decide (23 < h) = false) (t6 : decide (mi < 0) = true) (no : Hid (¬ right y m d h mi s)) :
    Calls Try.prog 33 #[.agg #[.int .i64 y, .int .i64 m, .int .i64 d, .int .i64 h, .int .i64 mi, .int .i64 s]] w (OfPost y m d h mi s w) := by
  go_enter Try.func33, Try.ntmps33
  go_wp2_with fail
  have hS0 : Below (w.heap.size + 1) (w.alloc (.cells #[.int .i64 y, .int .i64 m, .int .i64 d, .int .i64 h, .int .i64 mi, .int .i64 s] 47)) (w.alloc (.cells #[.int .i64 y, .int .i64 m, .int .i64 d, .int .i64 h, .int .i64 mi, .int .i64 s] 47)).drew := ⟨rfl, rfl, rfl, by simp, fun _ _ => rfl⟩
  refine Seq.region_seq (S := fun w' => Below (w.heap.size + 1) (w.alloc (.cells #[.int .i64 y, .int .i64 m, .int .i64 d, .int .i64 h, .int .i64 mi, .int .i64 s] 47)) w')
    [(0, false), (1, false), (2, false), (3, false), (4, false), (5, false), (6, false), (7, false), (8, false), (9, false), (10, false), (11, false), (12, false), (13, false), (14, false), (15, false), (16, false), (17, false), (18, false), (19, false), (20, true), (21, false), (22, false), (23, false), (24, false), (25, false), (26, false), (27, false), (28, false), (29, false), (30, false), (31, false), (32, false), (33, false), (34, false), (35, false), (36, false), (37, false), (38, false), (39, false), (40, false), (41, false), (42, false), (43, false), (44, false), (45, false), (46, false), (47, false), (48, false), (49, false), (50, false), (51, false), (52, false)]
    (by kernel_rfl) (by kernel_rfl) (fun _ _ d _ _ h => by cases d <;> exact h) hS0 ?_
  simp only [Seq.lay, List.getElem?_cons_zero, List.getElem?_cons_succ]
  repeat (first
    | (refine Seq.seq_skip (by rfl) ?_
       simp only [Act.put, List.setIfInBounds_toArray, List.set_cons_zero, List.set_cons_succ])
    | (refine Seq.seq_read (v := ?_) (by rfl) ?_ ?_
       rotate_left
       · (intro w' hS; have hc := (bcell hS).1; go_simp; with_reducible rfl)
       simp only [Act.put, List.setIfInBounds_toArray, List.set_cons_zero, List.set_cons_succ])
    | (refine Seq.seq_off (by rfl) hS0 ?_
       simp only [Act.put, List.setIfInBounds_toArray, List.set_cons_zero, List.set_cons_succ])
    | (refine Seq.seq_do (by rfl) (fun K hK => ?_)
       go_simp
       refine (monthDays_any _ _ _).mono ?_
       rintro e w1 ⟨rfl, hb1⟩
       have hS1 := below_next hb1 hS0
       refine hK _ _ hS1 ?_
       clear hK K
       try simp only [Act.put, List.setIfInBounds_toArray, List.set_cons_zero, List.set_cons_succ]))
  refine Seq.seq_nil ?_
  go_wp2_with fail
  go_ret2
  exact no_ans no.out (below_up hS1)

set_option maxHeartbeats 1000000 in
theorem momentOf_7 (y m d h mi s : Int) (w : World) (t0 : decide (y < 1601) = false) (t1 : decide (9999 < y) = false) (t2 : decide (d < 1) = false) (t3 : decide (mlen y m < d) = false) (t4 : decide (h < 0) = false) (t5 : decide (23 < h) = false) (t6 : decide (mi < 0) = false) (t7 : decide (59 < mi) = true) (no : Hid (¬ right y m d h mi s)) :
    Calls Try.prog 33 #[.agg #[.int .i64 y, .int .i64 m, .int .i64 d, .int .i64 h, .int .i64 mi, .int .i64 s]] w (OfPost y m d h mi s w) := by
  go_enter Try.func33, Try.ntmps33
  go_wp2_with fail
  have hS0 : Below (w.heap.size + 1) (w.alloc (.cells #[.int .i64 y, .int .i64 m, .int .i64 d, .int .i64 h, .int .i64 mi, .int .i64 s] 47)) (w.alloc (.cells #[.int .i64 y, .int .i64 m, .int .i64 d, .int .i64 h, .int .i64 mi, .int .i64 s] 47)).drew := ⟨rfl, rfl, rfl, by simp, fun _ _ => rfl⟩
  refine Seq.region_seq (S := fun w' => Below (w.heap.size + 1) (w.alloc (.cells #[.int .i64 y, .int .i64 m, .int .i64 d, .int .i64 h, .int .i64 mi, .int .i64 s] 47)) w')
    [(0, false), (1, false), (2, false), (3, false), (4, false), (5, false), (6, false), (7, false), (8, false), (9, false), (10, false), (11, false), (12, false), (13, false), (14, false), (15, false), (16, false), (17, false), (18, false), (19, false), (20, true), (21, false), (22, false), (23, false), (24, false), (25, false), (26, false), (27, false), (28, false), (29, false), (30, false), (31, false), (32, false), (33, false), (34, false), (35, false), (36, false), (37, false), (38, false), (39, false), (40, false), (41, false), (42, false), (43, false), (44, false), (45, false), (46, false), (47, false), (48, false), (49, false), (50, false), (51, false), (52, false)]
    (by kernel_rfl) (by kernel_rfl) (fun _ _ d _ _ h => by cases d <;> exact h) hS0 ?_
  simp only [Seq.lay, List.getElem?_cons_zero, List.getElem?_cons_succ]
  repeat (first
    | (refine Seq.seq_skip (by rfl) ?_
       simp only [Act.put, List.setIfInBounds_toArray, List.set_cons_zero, List.set_cons_succ])
    | (refine Seq.seq_read (v := ?_) (by rfl) ?_ ?_
       rotate_left
       · (intro w' hS; have hc := (bcell hS).1; go_simp; with_reducible rfl)
       simp only [Act.put, List.setIfInBounds_toArray, List.set_cons_zero, List.set_cons_succ])
    | (refine Seq.seq_off (by rfl) hS0 ?_
       simp only [Act.put, List.setIfInBounds_toArray, List.set_cons_zero, List.set_cons_succ])
    | (refine Seq.seq_do (by rfl) (fun K hK => ?_)
       go_simp
       refine (monthDays_any _ _ _).mono ?_
       rintro e w1 ⟨rfl, hb1⟩
       have hS1 := below_next hb1 hS0
       refine hK _ _ hS1 ?_
       clear hK K
       try simp only [Act.put, List.setIfInBounds_toArray, List.set_cons_zero, List.set_cons_succ]))
  refine Seq.seq_nil ?_
  go_wp2_with fail
  go_ret2
  exact no_ans no.out (below_up hS1)

set_option maxHeartbeats 1000000 in
theorem momentOf_8 (y m d h mi s : Int) (w : World) (t0 : decide (y < 1601) = false) (t1 : decide (9999 < y) = false) (t2 : decide (d < 1) = false) (t3 : decide (mlen y m < d) = false) (t4 : decide (h < 0) = false) (t5 : decide (23 < h) = false) (t6 : decide (mi < 0) = false) (t7 : decide (59 < mi) = false) (t8 : decide (s < 0) = true) (no : Hid (¬ right y m d h mi s)) :
    Calls Try.prog 33 #[.agg #[.int .i64 y, .int .i64 m, .int .i64 d, .int .i64 h, .int .i64 mi, .int .i64 s]] w (OfPost y m d h mi s w) := by
  go_enter Try.func33, Try.ntmps33
  go_wp2_with fail
  have hS0 : Below (w.heap.size + 1) (w.alloc (.cells #[.int .i64 y, .int .i64 m, .int .i64 d, .int .i64 h, .int .i64 mi, .int .i64 s] 47)) (w.alloc (.cells #[.int .i64 y, .int .i64 m, .int .i64 d, .int .i64 h, .int .i64 mi, .int .i64 s] 47)).drew := ⟨rfl, rfl, rfl, by simp, fun _ _ => rfl⟩
  refine Seq.region_seq (S := fun w' => Below (w.heap.size + 1) (w.alloc (.cells #[.int .i64 y, .int .i64 m, .int .i64 d, .int .i64 h, .int .i64 mi, .int .i64 s] 47)) w')
    [(0, false), (1, false), (2, false), (3, false), (4, false), (5, false), (6, false), (7, false), (8, false), (9, false), (10, false), (11, false), (12, false), (13, false), (14, false), (15, false), (16, false), (17, false), (18, false), (19, false), (20, true), (21, false), (22, false), (23, false), (24, false), (25, false), (26, false), (27, false), (28, false), (29, false), (30, false), (31, false), (32, false), (33, false), (34, false), (35, false), (36, false), (37, false), (38, false), (39, false), (40, false), (41, false), (42, false), (43, false), (44, false), (45, false), (46, false), (47, false), (48, false), (49, false), (50, false), (51, false), (52, false)]
    (by kernel_rfl) (by kernel_rfl) (fun _ _ d _ _ h => by cases d <;> exact h) hS0 ?_
  simp only [Seq.lay, List.getElem?_cons_zero, List.getElem?_cons_succ]
  repeat (first
    | (refine Seq.seq_skip (by rfl) ?_
       simp only [Act.put, List.setIfInBounds_toArray, List.set_cons_zero, List.set_cons_succ])
    | (refine Seq.seq_read (v := ?_) (by rfl) ?_ ?_
       rotate_left
       · (intro w' hS; have hc := (bcell hS).1; go_simp; with_reducible rfl)
       simp only [Act.put, List.setIfInBounds_toArray, List.set_cons_zero, List.set_cons_succ])
    | (refine Seq.seq_off (by rfl) hS0 ?_
       simp only [Act.put, List.setIfInBounds_toArray, List.set_cons_zero, List.set_cons_succ])
    | (refine Seq.seq_do (by rfl) (fun K hK => ?_)
       go_simp
       refine (monthDays_any _ _ _).mono ?_
       rintro e w1 ⟨rfl, hb1⟩
       have hS1 := below_next hb1 hS0
       refine hK _ _ hS1 ?_
       clear hK K
       try simp only [Act.put, List.setIfInBounds_toArray, List.set_cons_zero, List.set_cons_succ]))
  refine Seq.seq_nil ?_
  go_wp2_with fail
  go_ret2
  exact no_ans no.out (below_up hS1)

set_option maxHeartbeats 1000000 in
theorem momentOf_9 (y m d h mi s : Int) (w : World) (t0 : decide (y < 1601) = false) (t1 : decide (9999 < y) = false) (t2 : decide (d < 1) = false) (t3 : decide (mlen y m < d) = false) (t4 : decide (h < 0) = false) (t5 : decide (23 < h) = false) (t6 : decide (mi < 0) = false) (t7 : decide (59 < mi) = false) (t8 : decide (s < 0) = false) (t9 : decide (59 < s) = true) (no : Hid (¬ right y m d h mi s)) :
    Calls Try.prog 33 #[.agg #[.int .i64 y, .int .i64 m, .int .i64 d, .int .i64 h, .int .i64 mi, .int .i64 s]] w (OfPost y m d h mi s w) := by
  go_enter Try.func33, Try.ntmps33
  go_wp2_with fail
  have hS0 : Below (w.heap.size + 1) (w.alloc (.cells #[.int .i64 y, .int .i64 m, .int .i64 d, .int .i64 h, .int .i64 mi, .int .i64 s] 47)) (w.alloc (.cells #[.int .i64 y, .int .i64 m, .int .i64 d, .int .i64 h, .int .i64 mi, .int .i64 s] 47)).drew := ⟨rfl, rfl, rfl, by simp, fun _ _ => rfl⟩
  refine Seq.region_seq (S := fun w' => Below (w.heap.size + 1) (w.alloc (.cells #[.int .i64 y, .int .i64 m, .int .i64 d, .int .i64 h, .int .i64 mi, .int .i64 s] 47)) w')
    [(0, false), (1, false), (2, false), (3, false), (4, false), (5, false), (6, false), (7, false), (8, false), (9, false), (10, false), (11, false), (12, false), (13, false), (14, false), (15, false), (16, false), (17, false), (18, false), (19, false), (20, true), (21, false), (22, false), (23, false), (24, false), (25, false), (26, false), (27, false), (28, false), (29, false), (30, false), (31, false), (32, false), (33, false), (34, false), (35, false), (36, false), (37, false), (38, false), (39, false), (40, false), (41, false), (42, false), (43, false), (44, false), (45, false), (46, false), (47, false), (48, false), (49, false), (50, false), (51, false), (52, false)]
    (by kernel_rfl) (by kernel_rfl) (fun _ _ d _ _ h => by cases d <;> exact h) hS0 ?_
  simp only [Seq.lay, List.getElem?_cons_zero, List.getElem?_cons_succ]
  repeat (first
    | (refine Seq.seq_skip (by rfl) ?_
       simp only [Act.put, List.setIfInBounds_toArray, List.set_cons_zero, List.set_cons_succ])
    | (refine Seq.seq_read (v := ?_) (by rfl) ?_ ?_
       rotate_left
       · (intro w' hS; have hc := (bcell hS).1; go_simp; with_reducible rfl)
       simp only [Act.put, List.setIfInBounds_toArray, List.set_cons_zero, List.set_cons_succ])
    | (refine Seq.seq_off (by rfl) hS0 ?_
       simp only [Act.put, List.setIfInBounds_toArray, List.set_cons_zero, List.set_cons_succ])
    | (refine Seq.seq_do (by rfl) (fun K hK => ?_)
       go_simp
       refine (monthDays_any _ _ _).mono ?_
       rintro e w1 ⟨rfl, hb1⟩
       have hS1 := below_next hb1 hS0
       refine hK _ _ hS1 ?_
       clear hK K
       try simp only [Act.put, List.setIfInBounds_toArray, List.set_cons_zero, List.set_cons_succ]))
  refine Seq.seq_nil ?_
  go_wp2_with fail
  go_ret2
  exact no_ans no.out (below_up hS1)

set_option maxHeartbeats 1000000 in
theorem momentOf_10 (y m d h mi s : Int) (w : World) (t0 : decide (y < 1601) = false) (t1 : decide (9999 < y) = false) (t2 : decide (d < 1) = false) (t3 : decide (mlen y m < d) = false) (t4 : decide (h < 0) = false) (t5 : decide (23 < h) = false) (t6 : decide (mi < 0) = false) (t7 : decide (59 < mi) = false) (t8 : decide (s < 0) = false) (t9 : decide (59 < s) = false) (HR : Hid (right y m d h mi s)) :
    Calls Try.prog 33 #[.agg #[.int .i64 y, .int .i64 m, .int .i64 d, .int .i64 h, .int .i64 mi, .int .i64 s]] w (OfPost y m d h mi s w) := by
  go_enter Try.func33, Try.ntmps33
  go_wp2_with fail
  have hS0 : Below (w.heap.size + 1) (w.alloc (.cells #[.int .i64 y, .int .i64 m, .int .i64 d, .int .i64 h, .int .i64 mi, .int .i64 s] 47)) (w.alloc (.cells #[.int .i64 y, .int .i64 m, .int .i64 d, .int .i64 h, .int .i64 mi, .int .i64 s] 47)).drew := ⟨rfl, rfl, rfl, by simp, fun _ _ => rfl⟩
  refine Seq.region_seq (S := fun w' => Below (w.heap.size + 1) (w.alloc (.cells #[.int .i64 y, .int .i64 m, .int .i64 d, .int .i64 h, .int .i64 mi, .int .i64 s] 47)) w')
    [(0, false), (1, false), (2, false), (3, false), (4, false), (5, false), (6, false), (7, false), (8, false), (9, false), (10, false), (11, false), (12, false), (13, false), (14, false), (15, false), (16, false), (17, false), (18, false), (19, false), (20, true), (21, false), (22, false), (23, false), (24, false), (25, false), (26, false), (27, false), (28, false), (29, false), (30, false), (31, false), (32, false), (33, false), (34, false), (35, false), (36, false), (37, false), (38, false), (39, false), (40, false), (41, false), (42, false), (43, false), (44, false), (45, false), (46, false), (47, false), (48, false), (49, false), (50, false), (51, false), (52, false)]
    (by kernel_rfl) (by kernel_rfl) (fun _ _ d _ _ h => by cases d <;> exact h) hS0 ?_
  simp only [Seq.lay, List.getElem?_cons_zero, List.getElem?_cons_succ]
  repeat (first
    | (refine Seq.seq_skip (by rfl) ?_
       simp only [Act.put, List.setIfInBounds_toArray, List.set_cons_zero, List.set_cons_succ])
    | (refine Seq.seq_read (v := ?_) (by rfl) ?_ ?_
       rotate_left
       · (intro w' hS; have hc := (bcell hS).1; go_simp; with_reducible rfl)
       simp only [Act.put, List.setIfInBounds_toArray, List.set_cons_zero, List.set_cons_succ])
    | (refine Seq.seq_off (by rfl) hS0 ?_
       simp only [Act.put, List.setIfInBounds_toArray, List.set_cons_zero, List.set_cons_succ])
    | (refine Seq.seq_do (by rfl) (fun K hK => ?_)
       go_simp
       refine (monthDays_any _ _ _).mono ?_
       rintro e w1 ⟨rfl, hb1⟩
       have hS1 := below_next hb1 hS0
       refine hK _ _ hS1 ?_
       clear hK K
       try simp only [Act.put, List.setIfInBounds_toArray, List.set_cons_zero, List.set_cons_succ]))
  refine Seq.seq_nil ?_
  obtain ⟨e1, e2, e3, e4, e5, e6⟩ := num_in HR.out
  have e7 := mom_bd HR.out
  have e8 := num_lt HR.out.1
  have e9 : -134774 ≤ num y m d ∧ num y m d ≤ 2932896 := by
    have := dby_mono (y + 1) 10000 (by have := HR.out.1.2.1; omega)
    rw [dby_last] at this; omega
  have f1 : 0 ≤ h ∧ h ≤ 23 ∧ 0 ≤ mi ∧ mi ≤ 59 ∧ 0 ≤ s ∧ s ≤ 59 := HR.out.2
  clear e7 e8 t0 t1 t2 t3 t4 t5 t6 t7 t8 t9
  obtain ⟨hc1, hf1⟩ := bcell hS1
  go_wp2_with fail
  go_quiet ((go_at_call 63; exact Calls.quiet_of_same ((dayNo_any _ _ _ _ HR.out.1).mono (fun _ _ ⟨a, b⟩ => ⟨a, b.symm⟩))))
  go_wp2_with fail
  go_ret2
  refine ⟨_, rfl, .inl ⟨HR.out, ?_⟩, below_up ⟨hS1.os, hS1.tape, hS1.output, hS1.size, hS1.block⟩⟩
  exact tup (by show _ = mom y m d h mi s; unfold mom; go_light; omega) rfl

theorem of_right {y m d h mi s : Int} (t0 : ¬ y < 1601) (t1 : ¬ 9999 < y) (t2 : ¬ d < 1) (t3 : ¬ mlen y m < d) (t4 : ¬ h < 0) (t5 : ¬ 23 < h) (t6 : ¬ mi < 0) (t7 : ¬ 59 < mi) (t8 : ¬ s < 0) (t9 : ¬ 59 < s) : right y m d h mi s :=
  ⟨⟨by omega, by omega, by omega, by omega⟩, by omega, by omega, by omega, by omega, by omega, by omega⟩
theorem momentOf_any (y m d h mi s : Int) (w : World) :
    Calls Try.prog 33 #[.agg #[.int .i64 y, .int .i64 m, .int .i64 d, .int .i64 h, .int .i64 mi, .int .i64 s]] w (OfPost y m d h mi s w) := by
  by_cases c0 : y < 1601
  · exact momentOf_0 y m d h mi s w (decide_eq_true c0) (fun h1 => absurd h1.1.1 (by omega))
  by_cases c1 : 9999 < y
  · exact momentOf_1 y m d h mi s w (decide_eq_false c0) (decide_eq_true c1) (fun h1 => absurd h1.1.2.1 (by omega))
  by_cases c2 : d < 1
  · exact momentOf_2 y m d h mi s w (decide_eq_false c0) (decide_eq_false c1) (decide_eq_true c2) (fun h1 => absurd h1.1.2.2.1 (by omega))
  by_cases c3 : mlen y m < d
  · exact momentOf_3 y m d h mi s w (decide_eq_false c0) (decide_eq_false c1) (decide_eq_false c2) (decide_eq_true c3) (fun h1 => absurd h1.1.2.2.2 (by omega))
  by_cases c4 : h < 0
  · exact momentOf_4 y m d h mi s w (decide_eq_false c0) (decide_eq_false c1) (decide_eq_false c2) (decide_eq_false c3) (decide_eq_true c4) (fun h1 => absurd h1.2.1 (by omega))
  by_cases c5 : 23 < h
  · exact momentOf_5 y m d h mi s w (decide_eq_false c0) (decide_eq_false c1) (decide_eq_false c2) (decide_eq_false c3) (decide_eq_false c4) (decide_eq_true c5) (fun h1 => absurd h1.2.2.1 (by omega))
  by_cases c6 : mi < 0
  · exact momentOf_6 y m d h mi s w (decide_eq_false c0) (decide_eq_false c1) (decide_eq_false c2) (decide_eq_false c3) (decide_eq_false c4) (decide_eq_false c5) (decide_eq_true c6) (fun h1 => absurd h1.2.2.2.1 (by omega))
  by_cases c7 : 59 < mi
  · exact momentOf_7 y m d h mi s w (decide_eq_false c0) (decide_eq_false c1) (decide_eq_false c2) (decide_eq_false c3) (decide_eq_false c4) (decide_eq_false c5) (decide_eq_false c6) (decide_eq_true c7) (fun h1 => absurd h1.2.2.2.2.1 (by omega))
  by_cases c8 : s < 0
  · exact momentOf_8 y m d h mi s w (decide_eq_false c0) (decide_eq_false c1) (decide_eq_false c2) (decide_eq_false c3) (decide_eq_false c4) (decide_eq_false c5) (decide_eq_false c6) (decide_eq_false c7) (decide_eq_true c8) (fun h1 => absurd h1.2.2.2.2.2.1 (by omega))
  by_cases c9 : 59 < s
  · exact momentOf_9 y m d h mi s w (decide_eq_false c0) (decide_eq_false c1) (decide_eq_false c2) (decide_eq_false c3) (decide_eq_false c4) (decide_eq_false c5) (decide_eq_false c6) (decide_eq_false c7) (decide_eq_false c8) (decide_eq_true c9) (fun h1 => absurd h1.2.2.2.2.2.2 (by omega))
  exact momentOf_10 y m d h mi s w (decide_eq_false c0) (decide_eq_false c1) (decide_eq_false c2) (decide_eq_false c3) (decide_eq_false c4) (decide_eq_false c5) (decide_eq_false c6) (decide_eq_false c7) (decide_eq_false c8) (decide_eq_false c9) (of_right c0 c1 c2 c3 c4 c5 c6 c7 c8 c9)
end Go.Proofs.Ytaojlikkaajpmaa.ClockM
