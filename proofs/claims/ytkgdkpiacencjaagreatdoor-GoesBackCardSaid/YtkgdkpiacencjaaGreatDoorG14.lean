/- Texts of the proof, joined: ClockM, ClockV, DateB. -/
import Derived.Test.YtkgdkpiacencjaaGreatDoorG13
import Derived.Test.YtkgdkpiacencjaaGreatDoorG10
import Derived.Test.YtkgdkpiacencjaaGreatDoorG9
import Derived.Test.YtkgdkpiacencjaaGreatDoorG12
import Derived.Test.YtkgdkpiacencjaaGreatDoorG11
section
namespace Go.Proofs.YtkgdkpiacencjaaGreatDoor.ClockM
open Go.RowKit ClockP ClockW ClockO ClockR

theorem tup {k j : IntKind} {a b c d : Int} (h : a = b) (h2 : c = d) : Value.tuple #[.int k a, .int j c] = .tuple #[.int k b, .int j d] := by rw [h, h2]
theorem below_next {w w1 wx : World} {o : Obj} (hb : Below wx.heap.size wx w1) (h : Below (w.heap.size + 1) (w.alloc o) wx) : Below (w.heap.size + 1) (w.alloc o) w1 := h.trans (hb.mono (by have := h.size; simpa using this))

set_option maxHeartbeats 1000000 in
theorem momentOf_0 (y m d h mi s : Int) (w : World) (t0 : decide (y < 1601) = true) (no : Hid (¬ right y m d h mi s)) :
    Calls Tryz.prog 112 #[.agg #[.int .i64 y, .int .i64 m, .int .i64 d, .int .i64 h, .int .i64 mi, .int .i64 s]] w (OfPost y m d h mi s w) := by
  go_enter Tryz.func112, Tryz.ntmps112
  go_wp2_with fail
  have hS0 : Below (w.heap.size + 1) (w.alloc (.cells #[.int .i64 y, .int .i64 m, .int .i64 d, .int .i64 h, .int .i64 mi, .int .i64 s] 106)) (w.alloc (.cells #[.int .i64 y, .int .i64 m, .int .i64 d, .int .i64 h, .int .i64 mi, .int .i64 s] 106)).drew := ⟨rfl, rfl, rfl, by simp, fun _ _ => rfl⟩
  refine Seq.region_seq (S := fun w' => Below (w.heap.size + 1) (w.alloc (.cells #[.int .i64 y, .int .i64 m, .int .i64 d, .int .i64 h, .int .i64 mi, .int .i64 s] 106)) w')
    [(0, false), (1, false), (2, false), (3, false), (4, false), (5, false), (6, false), (7, false), (8, false), (9, false), (10, false), (11, false), (12, false), (13, false), (14, false), (15, false), (16, false), (17, false), (18, false), (19, false), (20, true), (21, false), (22, false), (23, false), (24, false), (25, false), (26, false), (27, false), (28, false), (29, false), (30, false), (31, false), (32, false), (33, false), (34, false), (35, false), (36, false), (37, false), (38, false), (39, false), (40, false), (41, false), (42, false), (43, false), (44, false), (45, false), (46, false), (47, false), (48, false), (49, false), (50, false), (51, false), (52, false)]
    (by kernel_rfl) (by kernel_rfl) (fun _ _ d _ _ h => by cases d <;> exact h) hS0 ?_
  simp only [Seq.lay, List.getElem?_cons_zero, List.getElem?_cons_succ]
  repeat (first
    | (refine Seq.seq_skip (by rfl) ?_
       simp only [Act.put, List.setIfInBounds_toArray, List.set_cons_zero, List.set_cons_succ])
    | (refine Seq.seq_read (v := ?_) (by rfl) ?_ ?_
       rotate_left
       · (intro w' hS; have hc := (bcell hS).1; go_simp; with_reducible rfl)
       simp only [Act.put, List.setIfInBounds_toArray, List.set_cons_zero, List.set_cons_succ])
    | (refine Seq.seq_off (by rfl) hS0 ?_
       simp only [Act.put, List.setIfInBounds_toArray, List.set_cons_zero, List.set_cons_succ])
    | (refine Seq.seq_do (by rfl) (fun K hK => ?_)
       go_simp
       refine (monthDays_any _ _ _).mono ?_
       rintro e w1 ⟨rfl, hb1⟩
       have hS1 := below_next hb1 hS0
       refine hK _ _ hS1 ?_
       clear hK K
       try simp only [Act.put, List.setIfInBounds_toArray, List.set_cons_zero, List.set_cons_succ]))
  refine Seq.seq_nil ?_
  go_wp2_with fail
  go_ret2
  exact no_ans no.out (below_up hS0)

set_option maxHeartbeats 1000000 in
theorem momentOf_1 (y m d h mi s : Int) (w : World) (t0 : decide (y < 1601) = false) (t1 : decide (9999 < y) = true) (no : Hid (¬ right y m d h mi s)) :
    Calls Tryz.prog 112 #[.agg #[.int .i64 y, .int .i64 m, .int .i64 d, .int .i64 h, .int .i64 mi, .int .i64 s]] w (OfPost y m d h mi s w) := by
  go_enter Tryz.func112, Tryz.ntmps112
  go_wp2_with fail
  have hS0 : Below (w.heap.size + 1) (w.alloc (.cells #[.int .i64 y, .int .i64 m, .int .i64 d, .int .i64 h, .int .i64 mi, .int .i64 s] 106)) (w.alloc (.cells #[.int .i64 y, .int .i64 m, .int .i64 d, .int .i64 h, .int .i64 mi, .int .i64 s] 106)).drew := ⟨rfl, rfl, rfl, by simp, fun _ _ => rfl⟩
  refine Seq.region_seq (S := fun w' => Below (w.heap.size + 1) (w.alloc (.cells #[.int .i64 y, .int .i64 m, .int .i64 d, .int .i64 h, .int .i64 mi, .int .i64 s] 106)) w')
    [(0, false), (1, false), (2, false), (3, false), (4, false), (5, false), (6, false), (7, false), (8, false), (9, false), (10, false), (11, false), (12, false), (13, false), (14, false), (15, false), (16, false), (17, false), (18, false), (19, false), (20, true), (21, false), (22, false), (23, false), (24, false), (25, false), (26, false), (27, false), (28, false), (29, false), (30, false), (31, false), (32, false), (33, false), (34, false), (35, false), (36, false), (37, false), (38, false), (39, false), (40, false), (41, false), (42, false), (43, false), (44, false), (45, false), (46, false), (47, false), (48, false), (49, false), (50, false), (51, false), (52, false)]
    (by kernel_rfl) (by kernel_rfl) (fun _ _ d _ _ h => by cases d <;> exact h) hS0 ?_
  simp only [Seq.lay, List.getElem?_cons_zero, List.getElem?_cons_succ]
  repeat (first
    | (refine Seq.seq_skip (by rfl) ?_
       simp only [Act.put, List.setIfInBounds_toArray, List.set_cons_zero, List.set_cons_succ])
    | (refine Seq.seq_read (v := ?_) (by rfl) ?_ ?_
       rotate_left
       · (intro w' hS; have hc := (bcell hS).1; go_simp; with_reducible rfl)
       simp only [Act.put, List.setIfInBounds_toArray, List.set_cons_zero, List.set_cons_succ])
    | (refine Seq.seq_off (by rfl) hS0 ?_
       simp only [Act.put, List.setIfInBounds_toArray, List.set_cons_zero, List.set_cons_succ])
    | (refine Seq.seq_do (by rfl) (fun K hK => ?_)
       go_simp
       refine (monthDays_any _ _ _).mono ?_
       rintro e w1 ⟨rfl, hb1⟩
       have hS1 := below_next hb1 hS0
       refine hK _ _ hS1 ?_
       clear hK K
       try simp only [Act.put, List.setIfInBounds_toArray, List.set_cons_zero, List.set_cons_succ]))
  refine Seq.seq_nil ?_
  go_wp2_with fail
  go_ret2
  exact no_ans no.out (below_up hS0)

set_option maxHeartbeats 1000000 in
theorem momentOf_2 (y m d h mi s : Int) (w : World) (t0 : decide (y < 1601) = false) (t1 : decide (9999 < y) = false) (t2 : decide (d < 1) = true) (no : Hid (¬ right y m d h mi s)) :
    Calls Tryz.prog 112 #[.agg #[.int .i64 y, .int .i64 m, .int .i64 d, .int .i64 h, .int .i64 mi, .int .i64 s]] w (OfPost y m d h mi s w) := by
  go_enter Tryz.func112, Tryz.ntmps112
  go_wp2_with fail
  have hS0 : Below (w.heap.size + 1) (w.alloc (.cells #[.int .i64 y, .int .i64 m, .int .i64 d, .int .i64 h, .int .i64 mi, .int .i64 s] 106)) (w.alloc (.cells #[.int .i64 y, .int .i64 m, .int .i64 d, .int .i64 h, .int .i64 mi, .int .i64 s] 106)).drew := ⟨rfl, rfl, rfl, by simp, fun _ _ => rfl⟩
  refine Seq.region_seq (S := fun w' => Below (w.heap.size + 1) (w.alloc (.cells #[.int .i64 y, .int .i64 m, .int .i64 d, .int .i64 h, .int .i64 mi, .int .i64 s] 106)) w')
    [(0, false), (1, false), (2, false), (3, false), (4, false), (5, false), (6, false), (7, false), (8, false), (9, false), (10, false), (11, false), (12, false), (13, false), (14, false), (15, false), (16, false), (17, false), (18, false), (19, false), (20, true), (21, false), (22, false), (23, false), (24, false), (25, false), (26, false), (27, false), (28, false), (29, false), (30, false), (31, false), (32, false), (33, false), (34, false), (35, false), (36, false), (37, false), (38, false), (39, false), (40, false), (41, false), (42, false), (43, false), (44, false), (45, false), (46, false), (47, false), (48, false), (49, false), (50, false), (51, false), (52, false)]
    (by kernel_rfl) (by kernel_rfl) (fun _ _ d _ _ h => by cases d <;> exact h) hS0 ?_
  simp only [Seq.lay, List.getElem?_cons_zero, List.getElem?_cons_succ]
  repeat (first
    | (refine Seq.seq_skip (by rfl) ?_
       simp only [Act.put, List.setIfInBounds_toArray, List.set_cons_zero, List.set_cons_succ])
    | (refine Seq.seq_read (v := ?_) (by rfl) ?_ ?_
       rotate_left
       · (intro w' hS; have hc := (bcell hS).1; go_simp; with_reducible rfl)
       simp only [Act.put, List.setIfInBounds_toArray, List.set_cons_zero, List.set_cons_succ])
    | (refine Seq.seq_off (by rfl) hS0 ?_
       simp only [Act.put, List.setIfInBounds_toArray, List.set_cons_zero, List.set_cons_succ])
    | (refine Seq.seq_do (by rfl) (fun K hK => ?_)
       go_simp
       refine (monthDays_any _ _ _).mono ?_
       rintro e w1 ⟨rfl, hb1⟩
       have hS1 := below_next hb1 hS0
       refine hK _ _ hS1 ?_
       clear hK K
       try simp only [Act.put, List.setIfInBounds_toArray, List.set_cons_zero, List.set_cons_succ]))
  refine Seq.seq_nil ?_
  go_wp2_with fail
  go_ret2
  exact no_ans no.out (below_up hS0)

set_option maxHeartbeats 1000000 in
theorem momentOf_3 (y m d h mi s : Int) (w : World) (t0 : decide (y < 1601) = false) (t1 : decide (9999 < y) = false) (t2 : decide (d < 1) = false) (t3 : decide (mlen y m < d) = true) (no : Hid (¬ right y m d h mi s)) :
    Calls Tryz.prog 112 #[.agg #[.int .i64 y, .int .i64 m, .int .i64 d, .int .i64 h, .int .i64 mi, .int .i64 s]] w (OfPost y m d h mi s w) := by
  go_enter Tryz.func112, Tryz.ntmps112
  go_wp2_with fail
  have hS0 : Below (w.heap.size + 1) (w.alloc (.cells #[.int .i64 y, .int .i64 m, .int .i64 d, .int .i64 h, .int .i64 mi, .int .i64 s] 106)) (w.alloc (.cells #[.int .i64 y, .int .i64 m, .int .i64 d, .int .i64 h, .int .i64 mi, .int .i64 s] 106)).drew := ⟨rfl, rfl, rfl, by simp, fun _ _ => rfl⟩
  refine Seq.region_seq (S := fun w' => Below (w.heap.size + 1) (w.alloc (.cells #[.int .i64 y, .int .i64 m, .int .i64 d, .int .i64 h, .int .i64 mi, .int .i64 s] 106)) w')
    [(0, false), (1, false), (2, false), (3, false), (4, false), (5, false), (6, false), (7, false), (8, false), (9, false), (10, false), (11, false), (12, false), (13, false), (14, false), (15, false), (16, false), (17, false), (18, false), (19, false), (20, true), (21, false), (22, false), (23, false), (24, false), (25, false), (26, false), (27, false), (28, false), (29, false), (30, false), (31, false), (32, false), (33, false), (34, false), (35, false), (36, false), (37, false), (38, false), (39, false), (40, false), (41, false), (42, false), (43, false), (44, false), (45, false), (46, false), (47, false), (48, false), (49, false), (50, false), (51, false), (52, false)]
    (by kernel_rfl) (by kernel_rfl) (fun _ _ d _ _ h => by cases d <;> exact h) hS0 ?_
  simp only [Seq.lay, List.getElem?_cons_zero, List.getElem?_cons_succ]
  repeat (first
    | (refine Seq.seq_skip (by rfl) ?_
       simp only [Act.put, List.setIfInBounds_toArray, List.set_cons_zero, List.set_cons_succ])
    | (refine Seq.seq_read (v := ?_) (by rfl) ?_ ?_
       rotate_left
       · (intro w' hS; have hc := (bcell hS).1; go_simp; with_reducible rfl)
       simp only [Act.put, List.setIfInBounds_toArray, List.set_cons_zero, List.set_cons_succ])
    | (refine Seq.seq_off (by rfl) hS0 ?_
       simp only [Act.put, List.setIfInBounds_toArray, List.set_cons_zero, List.set_cons_succ])
    | (refine Seq.seq_do (by rfl) (fun K hK => ?_)
       go_simp
       refine (monthDays_any _ _ _).mono ?_
       rintro e w1 ⟨rfl, hb1⟩
       have hS1 := below_next hb1 hS0
       refine hK _ _ hS1 ?_
       clear hK K
       try simp only [Act.put, List.setIfInBounds_toArray, List.set_cons_zero, List.set_cons_succ]))
  refine Seq.seq_nil ?_
  go_wp2_with fail
  go_ret2
  exact no_ans no.out (below_up hS1)

set_option maxHeartbeats 1000000 in
theorem momentOf_4 (y m d h mi s : Int) (w : World) (t0 : decide (y < 1601) = false) (t1 : decide (9999 < y) = false) (t2 : decide (d < 1) = false) (t3 : decide (mlen y m < d) = false) (t4 : decide (h < 0) = true) (no : Hid (¬ right y m d h mi s)) :
    Calls Tryz.prog 112 #[.agg #[.int .i64 y, .int .i64 m, .int .i64 d, .int .i64 h, .int .i64 mi, .int .i64 s]] w (OfPost y m d h mi s w) := by
  go_enter Tryz.func112, Tryz.ntmps112
  go_wp2_with fail
  have hS0 : Below (w.heap.size + 1) (w.alloc (.cells #[.int .i64 y, .int .i64 m, .int .i64 d, .int .i64 h, .int .i64 mi, .int .i64 s] 106)) (w.alloc (.cells #[.int .i64 y, .int .i64 m, .int .i64 d, .int .i64 h, .int .i64 mi, .int .i64 s] 106)).drew := ⟨rfl, rfl, rfl, by simp, fun _ _ => rfl⟩
  refine Seq.region_seq (S := fun w' => Below (w.heap.size + 1) (w.alloc (.cells #[.int .i64 y, .int .i64 m, .int .i64 d, .int .i64 h, .int .i64 mi, .int .i64 s] 106)) w')
    [(0, false), (1, false), (2, false), (3, false), (4, false), (5, false), (6, false), (7, false), (8, false), (9, false), (10, false), (11, false), (12, false), (13, false), (14, false), (15, false), (16, false), (17, false), (18, false), (19, false), (20, true), (21, false), (22, false), (23, false), (24, false), (25, false), (26, false), (27, false), (28, false), (29, false), (30, false), (31, false), (32, false), (33, false), (34, false), (35, false), (36, false), (37, false), (38, false), (39, false), (40, false), (41, false), (42, false), (43, false), (44, false), (45, false), (46, false), (47, false), (48, false), (49, false), (50, false), (51, false), (52, false)]
    (by kernel_rfl) (by kernel_rfl) (fun _ _ d _ _ h => by cases d <;> exact h) hS0 ?_
  simp only [Seq.lay, List.getElem?_cons_zero, List.getElem?_cons_succ]
  repeat (first
    | (refine Seq.seq_skip (by rfl) ?_
       simp only [Act.put, List.setIfInBounds_toArray, List.set_cons_zero, List.set_cons_succ])
    | (refine Seq.seq_read (v := ?_) (by rfl) ?_ ?_
       rotate_left
       · (intro w' hS; have hc := (bcell hS).1; go_simp; with_reducible rfl)
       simp only [Act.put, List.setIfInBounds_toArray, List.set_cons_zero, List.set_cons_succ])
    | (refine Seq.seq_off (by rfl) hS0 ?_
       simp only [Act.put, List.setIfInBounds_toArray, List.set_cons_zero, List.set_cons_succ])
    | (refine Seq.seq_do (by rfl) (fun K hK => ?_)
       go_simp
       refine (monthDays_any _ _ _).mono ?_
       rintro e w1 ⟨rfl, hb1⟩
       have hS1 := below_next hb1 hS0
       refine hK _ _ hS1 ?_
       clear hK K
       try simp only [Act.put, List.setIfInBounds_toArray, List.set_cons_zero, List.set_cons_succ]))
  refine Seq.seq_nil ?_
  go_wp2_with fail
  go_ret2
  exact no_ans no.out (below_up hS1)

set_option maxHeartbeats 1000000 in
theorem momentOf_5 (y m d h mi s : Int) (w : World) (t0 : decide (y < 1601) = false) (t1 : decide (9999 < y) = false) (t2 : decide (d < 1) = false) (t3 : decide (mlen y m < d) = false) (t4 : decide (h < 0) = false) (t5 : decide (23 < h) = true) (no : Hid (¬ right y m d h mi s)) :
    Calls Tryz.prog 112 #[.agg #[.int .i64 y, .int .i64 m, .int .i64 d, .int .i64 h, .int .i64 mi, .int .i64 s]] w (OfPost y m d h mi s w) := by
  go_enter Tryz.func112, Tryz.ntmps112
  go_wp2_with fail
  have hS0 : Below (w.heap.size + 1) (w.alloc (.cells #[.int .i64 y, .int .i64 m, .int .i64 d, .int .i64 h, .int .i64 mi, .int .i64 s] 106)) (w.alloc (.cells #[.int .i64 y, .int .i64 m, .int .i64 d, .int .i64 h, .int .i64 mi, .int .i64 s] 106)).drew := ⟨rfl, rfl, rfl, by simp, fun _ _ => rfl⟩
  refine Seq.region_seq (S := fun w' => Below (w.heap.size + 1) (w.alloc (.cells #[.int .i64 y, .int .i64 m, .int .i64 d, .int .i64 h, .int .i64 mi, .int .i64 s] 106)) w')
    [(0, false), (1, false), (2, false), (3, false), (4, false), (5, false), (6, false), (7, false), (8, false), (9, false), (10, false), (11, false), (12, false), (13, false), (14, false), (15, false), (16, false), (17, false), (18, false), (19, false), (20, true), (21, false), (22, false), (23, false), (24, false), (25, false), (26, false), (27, false), (28, false), (29, false), (30, false), (31, false), (32, false), (33, false), (34, false), (35, false), (36, false), (37, false), (38, false), (39, false), (40, false), (41, false), (42, false), (43, false), (44, false), (45, false), (46, false), (47, false), (48, false), (49, false), (50, false), (51, false), (52, false)]
    (by kernel_rfl) (by kernel_rfl) (fun _ _ d _ _ h => by cases d <;> exact h) hS0 ?_
  simp only [Seq.lay, List.getElem?_cons_zero, List.getElem?_cons_succ]
  repeat (first
    | (refine Seq.seq_skip (by rfl) ?_
       simp only [Act.put, List.setIfInBounds_toArray, List.set_cons_zero, List.set_cons_succ])
    | (refine Seq.seq_read (v := ?_) (by rfl) ?_ ?_
       rotate_left
       · (intro w' hS; have hc := (bcell hS).1; go_simp; with_reducible rfl)
       simp only [Act.put, List.setIfInBounds_toArray, List.set_cons_zero, List.set_cons_succ])
    | (refine Seq.seq_off (by rfl) hS0 ?_
       simp only [Act.put, List.setIfInBounds_toArray, List.set_cons_zero, List.set_cons_succ])
    | (refine Seq.seq_do (by rfl) (fun K hK => ?_)
       go_simp
       refine (monthDays_any _ _ _).mono ?_
       rintro e w1 ⟨rfl, hb1⟩
       have hS1 := below_next hb1 hS0
       refine hK _ _ hS1 ?_
       clear hK K
       try simp only [Act.put, List.setIfInBounds_toArray, List.set_cons_zero, List.set_cons_succ]))
  refine Seq.seq_nil ?_
  go_wp2_with fail
  go_ret2
  exact no_ans no.out (below_up hS1)

set_option maxHeartbeats 1000000 in
theorem momentOf_6 (y m d h mi s : Int) (w : World) (t0 : decide (y < 1601) = false) (t1 : decide (9999 < y) = false) (t2 : decide (d < 1) = false) (t3 : decide (mlen y m < d) = false) (t4 : decide (h < 0) = false) (t5 : decide (23 < h) = false) (t6 : decide (mi < 0) = true) (no : Hid (¬ right y m d h mi s)) :
    Calls Tryz.prog 112 #[.agg #[.int .i64 y, .int .i64 m, .int .i64 d, .int .i64 h, .int .i64 mi, .int .i64 s]] w (OfPost y m d h mi s w) := by
  go_enter Tryz.func112, Tryz.ntmps112
  go_wp2_with fail
  have hS0 : Below (w.heap.size + 1) (w.alloc (.cells #[.int .i64 y, .int .i64 m, .int .i64 d, .int .i64 h, .int .i64 mi, .int .i64 s] 106)) (w.alloc (.cells #[.int .i64 y, .int .i64 m, .int .i64 d, .int .i64 h, .int .i64 mi, .int .i64 s] 106)).drew := ⟨rfl, rfl, rfl, by simp, fun _ _ => rfl⟩
  refine Seq.region_seq (S := fun w' => Below (w.heap.size + 1) (w.alloc (.cells #[.int .i64 y, .int .i64 m, .int .i64 d, .int .i64 h, .int .i64 mi, .int .i64 s] 106)) w')
    [(0, false), (1, false), (2, false), (3, false), (4, false), (5, false), (6, false), (7, false), (8, false), (9, false), (10, false), (11, false), (12, false), (13, false), (14, false), (15, false), (16, false), (17, false), (18, false), (19, false), (20, true), (21, false), (22, false), (23, false), (24, false), (25, false), (26, false), (27, false), (28, false), (29, false), (30, false), (31, false), (32, false), (33, false), (34, false), (35, false), (36, false), (37, false), (38, false), (39, false), (40, false), (41, false), (42, false), (43, false), (44, false), (45, false), (46, false), (47, false), (48, false), (49, false), (50, false), (51, false), (52, false)]
    (by kernel_rfl) (by kernel_rfl) (fun _ _ d _ _ h => by cases d <;> exact h) hS0 ?_
  simp only [Seq.lay, List.getElem?_cons_zero, List.getElem?_cons_succ]
  repeat (first
    | (refine Seq.seq_skip (by rfl) ?_
       simp only [Act.put, List.setIfInBounds_toArray, List.set_cons_zero, List.set_cons_succ])
    | (refine Seq.seq_read (v := ?_) (by rfl) ?_ ?_
       rotate_left
       · (intro w' hS; have hc := (bcell hS).1; go_simp; with_reducible rfl)
       simp only [Act.put, List.setIfInBounds_toArray, List.set_cons_zero, List.set_cons_succ])
    | (refine Seq.seq_off (by rfl) hS0 ?_
       simp only [Act.put, List.setIfInBounds_toArray, List.set_cons_zero, List.set_cons_succ])
    | (refine Seq.seq_do (by rfl) (fun K hK => ?_)
       go_simp
       refine (monthDays_any _ _ _).mono ?_
       rintro e w1 ⟨rfl, hb1⟩
       have hS1 := below_next hb1 hS0
       refine hK _ _ hS1 ?_
       clear hK K
       try simp only [Act.put, List.setIfInBounds_toArray, List.set_cons_zero, List.set_cons_succ]))
  refine Seq.seq_nil ?_
  go_wp2_with fail
  go_ret2
  exact no_ans no.out (below_up hS1)

set_option maxHeartbeats 1000000 in
theorem momentOf_7 (y m d h mi s : Int) (w : World) (t0 : decide (y < 1601) = false) (t1 : decide (9999 < y) = false) (t2 : decide (d < 1) = false) (t3 : decide (mlen y m < d) = false) (t4 : decide (h < 0) = false) (t5 : decide (23 < h) = false) (t6 : decide (mi < 0) = false) (t7 : decide (59 < mi) = true) (no : Hid (¬ right y m d h mi s)) :
    Calls Tryz.prog 112 #[.agg #[.int .i64 y, .int .i64 m, .int .i64 d, .int .i64 h, .int .i64 mi, .int .i64 s]] w (OfPost y m d h mi s w) := by
  go_enter Tryz.func112, Tryz.ntmps112
  go_wp2_with fail
  have hS0 : Below (w.heap.size + 1) (w.alloc (.cells #[.int .i64 y, .int .i64 m, .int .i64 d, .int .i64 h, .int .i64 mi, .int .i64 s] 106)) (w.alloc (.cells #[.int .i64 y, .int .i64 m, .int .i64 d, .int .i64 h, .int .i64 mi, .int .i64 s] 106)).drew := ⟨rfl, rfl, rfl, by simp, fun _ _ => rfl⟩
  refine Seq.region_seq (S := fun w' => Below (w.heap.size + 1) (w.alloc (.cells #[.int .i64 y, .int .i64 m, .int .i64 d, .int .i64 h, .int .i64 mi, .int .i64 s] 106)) w')
    [(0, false), (1, false), (2, false), (3, false), (4, false), (5, false), (6, false), (7, false), (8, false), (9, false), (10, false), (11, false), (12, false), (13, false), (14, false), (15, false), (16, false), (17, false), (18, false), (19, false), (20, true), (21, false), (22, false), (23, false), (24, false), (25, false), (26, false), (27, false), (28, false), (29, false), (30, false), (31, false), (32, false), (33, false), (34, false), (35, false), (36, false), (37, false), (38, false), (39, false), (40, false), (41, false), (42, false), (43, false), (44, false), (45, false), (46, false), (47, false), (48, false), (49, false), (50, false), (51, false), (52, false)]
    (by kernel_rfl) (by kernel_rfl) (fun _ _ d _ _ h => by cases d <;> exact h) hS0 ?_
  simp only [Seq.lay, List.getElem?_cons_zero, List.getElem?_cons_succ]
  repeat (first
    | (refine Seq.seq_skip (by rfl) ?_
       simp only [Act.put, List.setIfInBounds_toArray, List.set_cons_zero, List.set_cons_succ])
    | (refine Seq.seq_read (v := ?_) (by rfl) ?_ ?_
       rotate_left
       · (intro w' hS; have hc := (bcell hS).1; go_simp; with_reducible rfl)
       simp only [Act.put, List.setIfInBounds_toArray, List.set_cons_zero, List.set_cons_succ])
    | (refine Seq.seq_off (by rfl) hS0 ?_
       simp only [Act.put, List.setIfInBounds_toArray, List.set_cons_zero, List.set_cons_succ])
    | (refine Seq.seq_do (by rfl) (fun K hK => ?_)
       go_simp
       refine (monthDays_any _ _ _).mono ?_
       rintro e w1 ⟨rfl, hb1⟩
       have hS1 := below_next hb1 hS0
       refine hK _ _ hS1 ?_
       clear hK K
       try simp only [Act.put, List.setIfInBounds_toArray, List.set_cons_zero, List.set_cons_succ]))
  refine Seq.seq_nil ?_
  go_wp2_with fail
  go_ret2
  exact no_ans no.out (below_up hS1)

set_option maxHeartbeats 1000000 in
theorem momentOf_8 (y m d h mi s : Int) (w : World) (t0 : decide (y < 1601) = false) (t1 : decide (9999 < y) = false) (t2 : decide (d < 1) = false) (t3 : decide (mlen y m < d) = false) (t4 : decide (h < 0) = false) (t5 : decide (23 < h) = false) (t6 : decide (mi < 0) = false) (t7 : decide (59 < mi) = false) (t8 : decide (s < 0) = true) (no : Hid (¬ right y m d h mi s)) :
    Calls Tryz.prog 112 #[.agg #[.int .i64 y, .int .i64 m, .int .i64 d, .int .i64 h, .int .i64 mi, .int .i64 s]] w (OfPost y m d h mi s w) := by
  go_enter Tryz.func112, Tryz.ntmps112
  go_wp2_with fail
  have hS0 : Below (w.heap.size + 1) (w.alloc (.cells #[.int .i64 y, .int .i64 m, .int .i64 d, .int .i64 h, .int .i64 mi, .int .i64 s] 106)) (w.alloc (.cells #[.int .i64 y, .int .i64 m, .int .i64 d, .int .i64 h, .int .i64 mi, .int .i64 s] 106)).drew := ⟨rfl, rfl, rfl, by simp, fun _ _ => rfl⟩
  refine Seq.region_seq (S := fun w' => Below (w.heap.size + 1) (w.alloc (.cells #[.int .i64 y, .int .i64 m, .int .i64 d, .int .i64 h, .int .i64 mi, .int .i64 s] 106)) w')
    [(0, false), (1, false), (2, false), (3, false), (4, false), (5, false), (6, false), (7, false), (8, false), (9, false), (10, false), (11, false), (12, false), (13, false), (14, false), (15, false), (16, false), (17, false), (18, false), (19, false), (20, true), (21, false), (22, false), (23, false), (24, false), (25, false), (26, false), (27, false), (28, false), (29, false), (30, false), (31, false), (32, false), (33, false), (34, false), (35, false), (36, false), (37, false), (38, false), (39, false), (40, false), (41, false), (42, false), (43, false), (44, false), (45, false), (46, false), (47, false), (48, false), (49, false), (50, false), (51, false), (52, false)]
    (by kernel_rfl) (by kernel_rfl) (fun _ _ d _ _ h => by cases d <;> exact h) hS0 ?_
  simp only [Seq.lay, List.getElem?_cons_zero, List.getElem?_cons_succ]
  repeat (first
    | (refine Seq.seq_skip (by rfl) ?_
       simp only [Act.put, List.setIfInBounds_toArray, List.set_cons_zero, List.set_cons_succ])
    | (refine Seq.seq_read (v := ?_) (by rfl) ?_ ?_
       rotate_left
       · (intro w' hS; have hc := (bcell hS).1; go_simp; with_reducible rfl)
       simp only [Act.put, List.setIfInBounds_toArray, List.set_cons_zero, List.set_cons_succ])
    | (refine Seq.seq_off (by rfl) hS0 ?_
       simp only [Act.put, List.setIfInBounds_toArray, List.set_cons_zero, List.set_cons_succ])
    | (refine Seq.seq_do (by rfl) (fun K hK => ?_)
       go_simp
       refine (monthDays_any _ _ _).mono ?_
       rintro e w1 ⟨rfl, hb1⟩
       have hS1 := below_next hb1 hS0
       refine hK _ _ hS1 ?_
       clear hK K
       try simp only [Act.put, List.setIfInBounds_toArray, List.set_cons_zero, List.set_cons_succ]))
  refine Seq.seq_nil ?_
  go_wp2_with fail
  go_ret2
  exact no_ans no.out (below_up hS1)

set_option maxHeartbeats 1000000 in
theorem momentOf_9 (y m d h mi s : Int) (w : World) (t0 : decide (y < 1601) = false) (t1 : decide (9999 < y) = false) (t2 : decide (d < 1) = false) (t3 : decide (mlen y m < d) = false) (t4 : decide (h < 0) = false) (t5 : decide (23 < h) = false) (t6 : decide (mi < 0) = false) (t7 : decide (59 < mi) = false) (t8 : decide (s < 0) = false) (t9 : decide (59 < s) = true) (no : Hid (¬ right y m d h mi s)) :
    Calls Tryz.prog 112 #[.agg #[.int .i64 y, .int .i64 m, .int .i64 d, .int .i64 h, .int .i64 mi, .int .i64 s]] w (OfPost y m d h mi s w) := by
  go_enter Tryz.func112, Tryz.ntmps112
  go_wp2_with fail
  have hS0 : Below (w.heap.size + 1) (w.alloc (.cells #[.int .i64 y, .int .i64 m, .int .i64 d, .int .i64 h, .int .i64 mi, .int .i64 s] 106)) (w.alloc (.cells #[.int .i64 y, .int .i64 m, .int .i64 d, .int .i64 h, .int .i64 mi, .int .i64 s] 106)).drew := ⟨rfl, rfl, rfl, by simp, fun _ _ => rfl⟩
  refine Seq.region_seq (S := fun w' => Below (w.heap.size + 1) (w.alloc (.cells #[.int .i64 y, .int .i64 m, .int .i64 d, .int .i64 h, .int .i64 mi, .int .i64 s] 106)) w')
    [(0, false), (1, false), (2, false), (3, false), (4, false), (5, false), (6, false), (7, false), (8, false), (9, false), (10, false), (11, false), (12, false), (13, false), (14, false), (15, false), (16, false), (17, false), (18, false), (19, false), (20, true), (21, false), (22, false), (23, false), (24, false), (25, false), (26, false), (27, false), (28, false), (29, false), (30, false), (31, false), (32, false), (33, false), (34, false), (35, false), (36, false), (37, false), (38, false), (39, false), (40, false), (41, false), (42, false), (43, false), (44, false), (45, false), (46, false), (47, false), (48, false), (49, false), (50, false), (51, false), (52, false)]
    (by kernel_rfl) (by kernel_rfl) (fun _ _ d _ _ h => by cases d <;> exact h) hS0 ?_
  simp only [Seq.lay, List.getElem?_cons_zero, List.getElem?_cons_succ]
  repeat (first
    | (refine Seq.seq_skip (by rfl) ?_
       simp only [Act.put, List.setIfInBounds_toArray, List.set_cons_zero, List.set_cons_succ])
    | (refine Seq.seq_read (v := ?_) (by rfl) ?_ ?_
       rotate_left
       · (intro w' hS; have hc := (bcell hS).1; go_simp; with_reducible rfl)
       simp only [Act.put, List.setIfInBounds_toArray, List.set_cons_zero, List.set_cons_succ])
    | (refine Seq.seq_off (by rfl) hS0 ?_
       simp only [Act.put, List.setIfInBounds_toArray, List.set_cons_zero, List.set_cons_succ])
    | (refine Seq.seq_do (by rfl) (fun K hK => ?_)
       go_simp
       refine (monthDays_any _ _ _).mono ?_
       rintro e w1 ⟨rfl, hb1⟩
       have hS1 := below_next hb1 hS0
       refine hK _ _ hS1 ?_
       clear hK K
       try simp only [Act.put, List.setIfInBounds_toArray, List.set_cons_zero, List.set_cons_succ]))
  refine Seq.seq_nil ?_
  go_wp2_with fail
  go_ret2
  exact no_ans no.out (below_up hS1)

set_option maxHeartbeats 1000000 in
theorem momentOf_10 (y m d h mi s : Int) (w : World) (t0 : decide (y < 1601) = false) (t1 : decide (9999 < y) = false) (t2 : decide (d < 1) = false) (t3 : decide (mlen y m < d) = false) (t4 : decide (h < 0) = false) (t5 : decide (23 < h) = false) (t6 : decide (mi < 0) = false) (t7 : decide (59 < mi) = false) (t8 : decide (s < 0) = false) (t9 : decide (59 < s) = false) (HR : Hid (right y m d h mi s)) :
    Calls Tryz.prog 112 #[.agg #[.int .i64 y, .int .i64 m, .int .i64 d, .int .i64 h, .int .i64 mi, .int .i64 s]] w (OfPost y m d h mi s w) := by
  go_enter Tryz.func112, Tryz.ntmps112
  go_wp2_with fail
  have hS0 : Below (w.heap.size + 1) (w.alloc (.cells #[.int .i64 y, .int .i64 m, .int .i64 d, .int .i64 h, .int .i64 mi, .int .i64 s] 106)) (w.alloc (.cells #[.int .i64 y, .int .i64 m, .int .i64 d, .int .i64 h, .int .i64 mi, .int .i64 s] 106)).drew := ⟨rfl, rfl, rfl, by simp, fun _ _ => rfl⟩
  refine Seq.region_seq (S := fun w' => Below (w.heap.size + 1) (w.alloc (.cells #[.int .i64 y, .int .i64 m, .int .i64 d, .int .i64 h, .int .i64 mi, .int .i64 s] 106)) w')
    [(0, false), (1, false), (2, false), (3, false), (4, false), (5, false), (6, false), (7, false), (8, false), (9, false), (10, false), (11, false), (12, false), (13, false), (14, false), (15, false), (16, false), (17, false), (18, false), (19, false), (20, true), (21, false), (22, false), (23, false), (24, false), (25, false), (26, false), (27, false), (28, false), (29, false), (30, false), (31, false), (32, false), (33, false), (34, false), (35, false), (36, false), (37, false), (38, false), (39, false), (40, false), (41, false), (42, false), (43, false), (44, false), (45, false), (46, false), (47, false), (48, false), (49, false), (50, false), (51, false), (52, false)]
    (by kernel_rfl) (by kernel_rfl) (fun _ _ d _ _ h => by cases d <;> exact h) hS0 ?_
  simp only [Seq.lay, List.getElem?_cons_zero, List.getElem?_cons_succ]
  repeat (first
    | (refine Seq.seq_skip (by rfl) ?_
       simp only [Act.put, List.setIfInBounds_toArray, List.set_cons_zero, List.set_cons_succ])
    | (refine Seq.seq_read (v := ?_) (by rfl) ?_ ?_
       rotate_left
       · (intro w' hS; have hc := (bcell hS).1; go_simp; with_reducible rfl)
       simp only [Act.put, List.setIfInBounds_toArray, List.set_cons_zero, List.set_cons_succ])
    | (refine Seq.seq_off (by rfl) hS0 ?_
       simp only [Act.put, List.setIfInBounds_toArray, List.set_cons_zero, List.set_cons_succ])
    | (refine Seq.seq_do (by rfl) (fun K hK => ?_)
       go_simp
       refine (monthDays_any _ _ _).mono ?_
       rintro e w1 ⟨rfl, hb1⟩
       have hS1 := below_next hb1 hS0
       refine hK _ _ hS1 ?_
       clear hK K
       try simp only [Act.put, List.setIfInBounds_toArray, List.set_cons_zero, List.set_cons_succ]))
  refine Seq.seq_nil ?_
  obtain ⟨e1, e2, e3, e4, e5, e6⟩ := num_in HR.out
  have e7 := mom_bd HR.out
  have e8 := num_lt HR.out.1
  have e9 : -134774 ≤ num y m d ∧ num y m d ≤ 2932896 := by
    have := dby_mono (y + 1) 10000 (by have := HR.out.1.2.1; omega)
    rw [dby_last] at this; omega
  have f1 : 0 ≤ h ∧ h ≤ 23 ∧ 0 ≤ mi ∧ mi ≤ 59 ∧ 0 ≤ s ∧ s ≤ 59 := HR.out.2
  clear e7 e8 t0 t1 t2 t3 t4 t5 t6 t7 t8 t9
  obtain ⟨hc1, hf1⟩ := bcell hS1
  go_wp2_with fail
  go_quiet ((go_at_call 135; exact Calls.quiet_of_same ((dayNo_any _ _ _ _ HR.out.1).mono (fun _ _ ⟨a, b⟩ => ⟨a, b.symm⟩))))
  go_wp2_with fail
  go_ret2
  refine ⟨_, rfl, .inl ⟨HR.out, ?_⟩, below_up ⟨hS1.os, hS1.tape, hS1.output, hS1.size, hS1.block⟩⟩
  exact tup (by show _ = mom y m d h mi s; unfold mom; go_light; omega) rfl

theorem of_right {y m d h mi s : Int} (t0 : ¬ y < 1601) (t1 : ¬ 9999 < y) (t2 : ¬ d < 1) (t3 : ¬ mlen y m < d) (t4 : ¬ h < 0) (t5 : ¬ 23 < h) (t6 : ¬ mi < 0) (t7 : ¬ 59 < mi) (t8 : ¬ s < 0) (t9 : ¬ 59 < s) : right y m d h mi s :=
  ⟨⟨by omega, by omega, by omega, by omega⟩, by omega, by omega, by omega, by omega, by omega, by omega⟩
theorem momentOf_any (y m d h mi s : Int) (w : World) :
    Calls Tryz.prog 112 #[.agg #[.int .i64 y, .int .i64 m, .int .i64 d, .int .i64 h, .int .i64 mi, .int .i64 s]] w (OfPost y m d h mi s w) := by
  by_cases c0 : y < 1601
  · exact momentOf_0 y m d h mi s w (decide_eq_true c0) (fun h1 => absurd h1.1.1 (by omega))
  by_cases c1 : 9999 < y
  · exact momentOf_1 y m d h mi s w (decide_eq_false c0) (decide_eq_true c1) (fun h1 => absurd h1.1.2.1 (by omega))
  by_cases c2 : d < 1
  · exact momentOf_2 y m d h mi s w (decide_eq_false c0) (decide_eq_false c1) (decide_eq_true c2) (fun h1 => absurd h1.1.2.2.1 (by omega))
  by_cases c3 : mlen y m < d
  · exact momentOf_3 y m d h mi s w (decide_eq_false c0) (decide_eq_false c1) (decide_eq_false c2) (decide_eq_true c3) (fun h1 => absurd h1.1.2.2.2 (by omega))
  by_cases c4 : h < 0
  · exact momentOf_4 y m d h mi s w (decide_eq_false c0) (decide_eq_false c1) (decide_eq_false c2) (decide_eq_false c3) (decide_eq_true c4) (fun h1 => absurd h1.2.1 (by omega))
  by_cases c5 : 23 < h
  · exact momentOf_5 y m d h mi s w (decide_eq_false c0) (decide_eq_false c1) (decide_eq_false c2) (decide_eq_false c3) (decide_eq_false c4) (decide_eq_true c5) (fun h1 => absurd h1.2.2.1 (by omega))
  by_cases c6 : mi < 0
  · exact momentOf_6 y m d h mi s w (decide_eq_false c0) (decide_eq_false c1) (decide_eq_false c2) (decide_eq_false c3) (decide_eq_false c4) (decide_eq_false c5) (decide_eq_true c6) (fun h1 => absurd h1.2.2.2.1 (by omega))
  by_cases c7 : 59 < mi
  · exact momentOf_7 y m d h mi s w (decide_eq_false c0) (decide_eq_false c1) (decide_eq_false c2) (decide_eq_false c3) (decide_eq_false c4) (decide_eq_false c5) (decide_eq_false c6) (decide_eq_true c7) (fun h1 => absurd h1.2.2.2.2.1 (by omega))
  by_cases c8 : s < 0
  · exact momentOf_8 y m d h mi s w (decide_eq_false c0) (decide_eq_false c1) (decide_eq_false c2) (decide_eq_false c3) (decide_eq_false c4) (decide_eq_false c5) (decide_eq_false c6) (decide_eq_false c7) (decide_eq_true c8) (fun h1 => absurd h1.2.2.2.2.2.1 (by omega))
  by_cases c9 : 59 < s
  · exact momentOf_9 y m d h mi s w (decide_eq_false c0) (decide_eq_false c1) (decide_eq_false c2) (decide_eq_false c3) (decide_eq_false c4) (decide_eq_false c5) (decide_eq_false c6) (decide_eq_false c7) (decide_eq_false c8) (decide_eq_true c9) (fun h1 => absurd h1.2.2.2.2.2.2 (by omega))
  exact momentOf_10 y m d h mi s w (decide_eq_false c0) (decide_eq_false c1) (decide_eq_false c2) (decide_eq_false c3) (decide_eq_false c4) (decide_eq_false c5) (decide_eq_false c6) (decide_eq_false c7) (decide_eq_false c8) (decide_eq_false c9) (of_right c0 c1 c2 c3 c4 c5 c6 c7 c8 c9)
end Go.Proofs.YtkgdkpiacencjaaGreatDoor.ClockM
end

section
namespace Go.Proofs.YtkgdkpiacencjaaGreatDoor.ClockV
open Go.RowKit Mem Abs TreeW ClockP ClockW ClockO ClockR ClockM ClockT ClockI

abbrev timeT (y m d h mi s : Int) : Abs.V := .agg [.int .i64 y, .int .i64 m, .int .i64 d, .int .i64 h, .int .i64 mi, .int .i64 s]
open Classical in
noncomputable def ofF (y m d h mi s : Int) : Int × Int := if right y m d h mi s then (mom y m d h mi s, 0) else (0, 3)
theorem ofF_yes {y m d h mi s : Int} (hr : right y m d h mi s) : ofF y m d h mi s = (mom y m d h mi s, 0) := if_pos hr
theorem ofF_no {y m d h mi s : Int} (hr : ¬ right y m d h mi s) : ofF y m d h mi s = (0, 3) := if_neg hr
theorem fz_time {X : Nat → Prop} {w : World} {y m d h mi s : Int} {x : Value} (hx : Fz X w (timeT y m d h mi s) x) : x = .agg #[.int .i64 y, .int .i64 m, .int .i64 d, .int .i64 h, .int .i64 mi, .int .i64 s] := by
  obtain ⟨cs, rfl, hl, hc⟩ := fz_agg hx
  obtain ⟨cs⟩ := cs
  match cs, hl with
  | [c0, c1, c2, c3, c4, c5], _ =>
    obtain ⟨rfl, _⟩ := fz_int (hc 0 _ c0 rfl rfl)
    obtain ⟨rfl, _⟩ := fz_int (hc 1 _ c1 rfl rfl)
    obtain ⟨rfl, _⟩ := fz_int (hc 2 _ c2 rfl rfl)
    obtain ⟨rfl, _⟩ := fz_int (hc 3 _ c3 rfl rfl)
    obtain ⟨rfl, _⟩ := fz_int (hc 4 _ c4 rfl rfl)
    obtain ⟨rfl, _⟩ := fz_int (hc 5 _ c5 rfl rfl)
    rfl
theorem fz_two {X : Nat → Prop} {w : World} {a b : Int} (ha : InR .i64 a) (hb : InR .i64 b) : Fz X w (.tup [.int .i64 a, .int .i64 b]) (.tuple #[.int .i64 a, .int .i64 b]) := by
  refine .tup rfl fun i x c hx hc => ?_
  rcases i with _ | _ | i
  · simp at hx hc; subst hx hc; exact .int ha
  · simp at hx hc; subst hx hc; exact .int hb
  · simp at hx
theorem ofF_in (y m d h mi s : Int) : InR .i64 (ofF y m d h mi s).1 ∧ InR .i64 (ofF y m d h mi s).2 := by
  by_cases hr : right y m d h mi s
  · rw [ofF_yes hr]
    have := mom_bd hr
    exact ⟨⟨by simp only [rng]; omega, by simp only [rng]; omega⟩, inR_zero _⟩
  · rw [ofF_no hr]
    exact ⟨inR_zero _, ⟨by decide, by decide⟩⟩
theorem of_post {f : FuncId} {y m d h mi s : Int} (hc : ∀ w, Calls Tryz.prog f #[.agg #[.int .i64 y, .int .i64 m, .int .i64 d, .int .i64 h, .int .i64 mi, .int .i64 s]] w (OfPost y m d h mi s w)) : ACalls Tryz.prog f [timeT y m d h mi s] (.tup [.int .i64 (ofF y m d h mi s).1, .int .i64 (ofF y m d h mi s).2]) := fun g N w vs hG hN hlen hv => by
  obtain ⟨vs⟩ := vs
  match vs, hlen with
  | [x0], _ =>
    have := fz_time (hv 0 _ x0 rfl rfl)
    subst this
    obtain ⟨r1, r2⟩ := ofF_in y m d h mi s
    refine (hc w).mono fun e w' ⟨v, he, ha, hb⟩ => ⟨v, he, hb, ?_⟩
    rcases ha with ⟨hr, rfl⟩ | ⟨hr, rfl⟩
    · rw [ofF_yes hr] at r1 r2 ⊢; exact fz_two r1 r2
    · rw [ofF_no hr] at r1 r2 ⊢; exact fz_two r1 r2
theorem of_v {y m d h mi s : Int} : ACalls Tryz.prog 103 [timeT y m d h mi s] (.tup [.int .i64 (ofF y m d h mi s).1, .int .i64 (ofF y m d h mi s).2]) := of_post fun w => of_any y m d h mi s w
theorem momentOf_v {y m d h mi s : Int} : ACalls Tryz.prog 112 [timeT y m d h mi s] (.tup [.int .i64 (ofF y m d h mi s).1, .int .i64 (ofF y m d h mi s).2]) := of_post fun w => momentOf_any y m d h mi s w
/-- A moment's time. -/
structure TM where
  y : Int
  m : Int
  d : Int
  h : Int
  mi : Int
  s : Int
def tmF (n : Int) : TM := if isB n then ⟨refY n, refM n, dOf (inOf n), (n + 11644473600) % 86400 / 3600, (n + 11644473600) % 86400 % 3600 / 60, (n + 11644473600) % 86400 % 60⟩ else ⟨0, 0, 0, 0, 0, 0⟩
def teF (n : Int) : Int := if isB n then 0 else 3
abbrev TM.v (t : TM) : Abs.V := timeT t.y t.m t.d t.h t.mi t.s
theorem isB_iff {n : Int} : isB n = true ↔ -11644473600 ≤ n ∧ n ≤ 253402300799 := by unfold isB; simp
/-- A moment's weekday. -/
def wdF (n : Int) : Int := if isB n then (n / 86400 + 4) % 7 else 0
theorem noMoment_v {n : Int} : ACalls Tryz.prog 52 [.int .i64 n] (.bool (!isB n)) := fun g N w vs hG hN hlen hv => by
  obtain ⟨vs⟩ := vs
  match vs, hlen with
  | [x0], _ =>
    obtain ⟨rfl, _⟩ := fz_int (hv 0 _ x0 rfl rfl)
    exact (noMoment_any n w).mono fun e w' ⟨he, hbel⟩ => ⟨_, he, hbel ▸ Below.refl _ _, .bool⟩
end Go.Proofs.YtkgdkpiacencjaaGreatDoor.ClockV
end

section
namespace Go.Proofs.YtkgdkpiacencjaaGreatDoor.StampE
open Go.RowKit Mem Abs TreeW WordP WordS HostP HostO HostA PathT StampP StampA StampB StampC StampD Lead Rune

/-! ### bytes -/
def byF (s : List UInt8) (k : Nat) : List UInt8 := (s.take k).map lowB ++ List.replicate (s.length - k) 0
theorem by0 (s : List UInt8) : byF s 0 = List.replicate s.length 0 := by simp [byF]
theorem by_len (s : List UInt8) (k : Nat) (hk : k ≤ s.length) : (byF s k).length = s.length := by simp [byF]; omega
theorem by_at {s : List UInt8} {k : Nat} (hk : k < s.length) : (byF s k)[k]? = some 0 := by
  unfold byF
  rw [List.getElem?_append_right (by simp; omega)]
  have : (List.map lowB (s.take k)).length = k := by simp; omega
  rw [this, Nat.sub_self, List.getElem?_replicate, if_pos (by omega)]
theorem by_on {s : List UInt8} {k : Nat} {c : UInt8} (h : s[k]? = some c) : byF s (k + 1) = (byF s k).set k (lowB c) := by
  obtain ⟨hk, rfl⟩ := List.getElem?_eq_some_iff.1 h
  unfold byF
  have hl : (List.map lowB (s.take k)).length = k := by simp; omega
  rw [List.take_succ_eq_append_getElem hk, List.map_append, List.set_append_right _ _ (by omega), hl, Nat.sub_self]
  have : s.length - k = (s.length - (k + 1)) + 1 := by omega
  rw [this, List.replicate_succ, List.set_cons_zero]
  simp
theorem by_end (s : List UInt8) : byF s s.length = s.map lowB := by simp [byF]
theorem low_lt (c : UInt8) : (lowB c).toNat < 128 := by
  unfold lowB
  split
  · decide
  · omega
set_option maxRecDepth 100000 in
set_option maxHeartbeats 4000000 in
theorem bytes_v {s : List UInt8} (hs : s.length ≤ 400) : ACalls Tryz.prog 100 [strT s] (strT (s.map lowB)) := by
  have hx : ((s.map byteT).length : Int) = (s.length : Int) := by simp
  have h0 := by0 s
  have hon := fun k c => by_on (s := s) (k := k) (c := c)
  have hat := fun k => by_at (s := s) (k := k)
  have hlen := by_len s
  have hend := by_end s
  have hlow : ∀ b ∈ s.map lowB, b.toNat < 128 := fun b hb => by
    obtain ⟨c, _, rfl⟩ := List.mem_map.1 hb
    exact low_lt c
  generalize hL : byF s = L at *
  refine fun1 tb_ok Tryz.func100 rfl Tryz.ntmps100 Tryz.results100 rfl fun N => ?_
  repeat' (first | refine zt ?_ | (refine isR ?_; first | refine zo ?_ | refine x_mkN runeT 0 s.length tb_ok ?_ | refine zA ?_ | refine zL ?_ | refine zc1 ?_ | refine zc3 ?_ | refine zI ?_ | refine zB ?_ | (refine zs1 ?_ ?_ <;> intro hc) | (refine zs3 ?_ ?_ <;> intro hc)) | refine awp_split rfl (fun hb => ?_) (fun hb => ?_) | refine zr ?_ | exact x_le)
  refine awp_for (fun k => ⟨[(3, .own 0 0 (L k).length), (10, .fro (s.map byteT)), (11, .int .i64 (s.map byteT).length), (12, .int .i64 (k : Int))], [(0, some (.els 21 1 ((L k).map runeT)))], 1, 30⟩) (fun k => k ≤ s.length) s.length 0 (by simp only [h0, List.length_replicate]; exact (by exact x_le)) (Nat.zero_le _) ?_
  intro k hk
  have hlk := hlen k hk
  by_cases hk2 : k < s.length
  · have e1 : (s.map byteT)[k]? = some (byteT s[k]) := by simp [hk2]
    have e2 := hon k s[k] (by simp [hk2])
    have e3 := hat k hk2
    simp only [e2, List.length_set]
    generalize s[k] = c at *
    generalize L k = p at *
    have hc := c.toNat_lt
    have hcv : IntKind.i32.wrap (c.toNat : Int) = (c.toNat : Int) := by simp only [IntKind.wrap, IntKind.bits, IntKind.signed]; simp; omega
    have e4 : (p.set k c)[k]? = some c := List.getElem?_set_self (by omega)
    by_cases h126 : 126 < c.toNat
    · have e5 : (p.set k c).set k 122 = p.set k 122 := List.set_set ..
      rw [show lowB c = 122 by unfold lowB; rw [if_pos h126]]
      repeat' (first | refine zt ?_ | (refine isR ?_; first | refine zo ?_ | refine x_cv .i32 tb_ok ?_ | refine x_stI runeT (a1 := 122) k tb_ok ?_ | refine x_stI runeT (a1 := c) k tb_ok ?_ | refine zA ?_ | refine zL ?_ | refine zc1 ?_ | refine zc3 ?_ | refine zI ?_ | refine zB ?_ | (refine zs1 ?_ ?_ <;> intro hc) | (refine zs3 ?_ ?_ <;> intro hc)) | refine awp_split rfl (fun hb => ?_) (fun hb => ?_) | refine zr ?_ | exact x_le)
      refine ⟨by omega, hk2, ?_⟩
      rw [← e5]
      exact (by exact x_le)
    · rw [show lowB c = c by unfold lowB; rw [if_neg h126]]
      repeat' (first | refine zt ?_ | (refine isR ?_; first | refine zo ?_ | refine x_cv .i32 tb_ok ?_ | refine x_stI runeT (a1 := c) k tb_ok ?_ | refine zA ?_ | refine zL ?_ | refine zc1 ?_ | refine zc3 ?_ | refine zI ?_ | refine zB ?_ | (refine zs1 ?_ ?_ <;> intro hc) | (refine zs3 ?_ ?_ <;> intro hc)) | refine awp_split rfl (fun hb => ?_) (fun hb => ?_) | refine zr ?_ | exact x_le)
      refine ⟨by omega, hk2, ?_⟩
      exact (by exact x_le)
  · obtain rfl : k = s.length := by omega
    rw [hend]
    have hml : (s.map lowB).length = s.length := by simp
    repeat' (first | refine zt ?_ | (refine isR ?_; first | refine zo ?_ | refine x_runes tb_ok ?_ | refine zA ?_ | refine zL ?_ | refine zc1 ?_ | refine zc3 ?_ | refine zI ?_ | refine zB ?_ | (refine zs1 ?_ ?_ <;> intro hc) | (refine zs3 ?_ ?_ <;> intro hc)) | refine awp_split rfl (fun hb => ?_) (fun hb => ?_) | refine zr ?_ | exact x_le)
    rfl
end Go.Proofs.YtkgdkpiacencjaaGreatDoor.StampE
namespace Go.Proofs.YtkgdkpiacencjaaGreatDoor.StampF
open Go.RowKit Mem Abs TreeW WordP WordS HostP HostO HostA PathT StampP StampA StampB StampC StampD StampE Lead Rune

def piece (l : List UInt8) (p : Nat × Nat) : List UInt8 := (l.take p.2).drop p.1
abbrev spanT (p : Nat × Nat) : Abs.V := .agg [.int .i64 (p.1 : Int), .int .i64 (p.2 : Int)]
def outF (l : List UInt8) (A : List (Nat × Nat)) (j : Nat) : List (List UInt8) := (A.take j).map (piece l) ++ List.replicate (A.length - j) []
theorem out0 (l : List UInt8) (A : List (Nat × Nat)) : outF l A 0 = List.replicate A.length [] := by simp [outF]
theorem out_len {l : List UInt8} {A : List (Nat × Nat)} {j : Nat} (hj : j ≤ A.length) : (outF l A j).length = A.length := by simp [outF]; omega
theorem out_at {l : List UInt8} {A : List (Nat × Nat)} {j : Nat} (hj : j < A.length) : (outF l A j)[j]? = some [] := by
  unfold outF
  have hl : (List.map (piece l) (A.take j)).length = j := by simp; omega
  rw [List.getElem?_append_right (by omega), hl, Nat.sub_self, List.getElem?_replicate, if_pos (by omega)]
theorem out_on {l : List UInt8} {A : List (Nat × Nat)} {j : Nat} {q : Nat × Nat} (h : A[j]? = some q) : outF l A (j + 1) = (outF l A j).set j (piece l q) := by
  obtain ⟨hj, rfl⟩ := List.getElem?_eq_some_iff.1 h
  unfold outF
  have hl : (List.map (piece l) (A.take j)).length = j := by simp; omega
  rw [List.take_succ_eq_append_getElem hj, List.map_append, List.set_append_right _ _ (by omega), hl, Nat.sub_self]
  have : A.length - j = (A.length - (j + 1)) + 1 := by omega
  rw [this, List.replicate_succ, List.set_cons_zero]
  simp
theorem out_end (l : List UInt8) (A : List (Nat × Nat)) : outF l A A.length = A.map (piece l) := by simp [outF]
theorem piece_snoc {l : List UInt8} {a k : Nat} {c : UInt8} (h : l[k]? = some c) (ha : a ≤ k) : piece l (a, k) ++ [c] = piece l (a, k + 1) := by
  obtain ⟨hk, rfl⟩ := List.getElem?_eq_some_iff.1 h
  unfold piece
  dsimp only
  rw [List.take_succ_eq_append_getElem hk, List.drop_append_of_le_length (by simp; omega)]
theorem piece_nil (l : List UInt8) (k : Nat) : piece l (k, k) = [] := by
  unfold piece
  exact List.drop_eq_nil_of_le (by simp; omega)
/-- Where a text's words stand, k bytes on. -/
structure Walk (l : List UInt8) (k : Nat) (A : List (Nat × Nat)) (st : Int) : Prop where
  le : k ≤ l.length
  ok : ∀ q ∈ A, q.1 ≤ q.2 ∧ q.2 ≤ l.length
  rest : (st < 0 ∧ -9223372036854775808 ≤ st ∧ wordsF l = A.map (piece l) ++ wordsG [] (l.drop k)) ∨ (∃ a : Nat, st = a ∧ a < k ∧ wordsF l = A.map (piece l) ++ wordsG (piece l (a, k)) (l.drop k))
theorem piece_ne {l : List UInt8} {a k : Nat} (h : a < k) (hk : k ≤ l.length) : piece l (a, k) ≠ [] := by
  intro e
  have := congrArg List.length e
  unfold piece at this
  simp at this; omega
theorem drop_cons {l : List UInt8} {k : Nat} {c : UInt8} (h : l[k]? = some c) : l.drop k = c :: l.drop (k + 1) := by
  obtain ⟨hk, rfl⟩ := List.getElem?_eq_some_iff.1 h
  exact List.drop_eq_getElem_cons hk
theorem Walk.sep_in {l : List UInt8} {k a : Nat} {A : List (Nat × Nat)} {c : UInt8} (hl : l.length ≤ 400) (h : Walk l k A (a : Int)) (hc : l[k]? = some c) (hs : sepB c = true) : Walk l (k + 1) (A ++ [(a, k)]) (-1 - (a : Int)) := by
  have hk := (List.getElem?_eq_some_iff.1 hc).1
  have hle := h.le
  rcases h.rest with ⟨h1, _⟩ | ⟨b, h1, h2, h3⟩
  · omega
  obtain rfl : a = b := by omega
  refine ⟨by omega, fun q hq => ?_, .inl ⟨by omega, by omega, ?_⟩⟩
  · rcases List.mem_append.1 hq with hq | hq
    · exact h.ok q hq
    · rw [List.mem_singleton] at hq; subst hq; exact ⟨by show a ≤ k; omega, by show k ≤ l.length; omega⟩
  · rw [h3, drop_cons hc, wordsG, if_pos hs, if_neg (piece_ne h2 h.le), List.map_append, List.append_assoc]; rfl
theorem Walk.sep_out {l : List UInt8} {k : Nat} {A : List (Nat × Nat)} {c : UInt8} {st : Int} (h : Walk l k A st) (h0 : st < 0) (hc : l[k]? = some c) (hs : sepB c = true) : Walk l (k + 1) A st := by
  have hk := (List.getElem?_eq_some_iff.1 hc).1
  rcases h.rest with ⟨h1, h2, h3⟩ | ⟨b, h1, _⟩
  · refine ⟨by omega, h.ok, .inl ⟨h1, h2, ?_⟩⟩
    rw [h3, drop_cons hc, wordsG, if_pos hs, if_pos rfl]
  · omega
theorem Walk.in_in {l : List UInt8} {k a : Nat} {A : List (Nat × Nat)} {c : UInt8} (h : Walk l k A (a : Int)) (hc : l[k]? = some c) (hs : sepB c = false) : Walk l (k + 1) A (a : Int) := by
  have hk := (List.getElem?_eq_some_iff.1 hc).1
  rcases h.rest with ⟨h1, _⟩ | ⟨b, h1, h2, h3⟩
  · omega
  obtain rfl : a = b := by omega
  refine ⟨by omega, h.ok, .inr ⟨a, rfl, by omega, ?_⟩⟩
  rw [h3, drop_cons hc, wordsG, if_neg (by simp [hs]), piece_snoc hc (by omega)]
theorem Walk.in_out {l : List UInt8} {k : Nat} {A : List (Nat × Nat)} {c : UInt8} {st : Int} (h : Walk l k A st) (h0 : st < 0) (hc : l[k]? = some c) (hs : sepB c = false) : Walk l (k + 1) A (k : Int) := by
  have hk := (List.getElem?_eq_some_iff.1 hc).1
  rcases h.rest with ⟨h1, h2, h3⟩ | ⟨b, h1, _⟩
  · refine ⟨by omega, h.ok, .inr ⟨k, rfl, by omega, ?_⟩⟩
    rw [h3, drop_cons hc, wordsG, if_neg (by simp [hs]), ← piece_snoc hc (Nat.le_refl k), piece_nil]
  · omega
theorem walk0 (l : List UInt8) : Walk l 0 [] (-1) := ⟨Nat.zero_le _, fun q hq => (by cases hq), .inl ⟨by omega, by omega, rfl⟩⟩
set_option maxRecDepth 100000 in
set_option maxHeartbeats 4000000 in
theorem fields_v {l : List UInt8} (hl : l.length ≤ 400) (hlow : ∀ b ∈ l, b.toNat < 128) : ACalls Tryz.prog 99 [strT l, .fn (.func 101) [] []] (strsT (wordsF l)) := by
  have hsz : (str l).size = l.length := str_size l
  refine fun2 tb_ok Tryz.func99 rfl Tryz.ntmps99 Tryz.results99 rfl fun N => ?_
  repeat' (first | refine zt ?_ | (refine isR ?_; first | refine zo ?_ | refine x_mk0 spanT 32 tb_ok ?_ | refine x_range tb_ok ?_ | refine x_bs tb_ok ?_ | refine zA ?_ | refine zL ?_ | refine zc1 ?_ | refine zc4 ?_ | refine zI ?_ | refine zS ?_ | (refine zs1 ?_ ?_ <;> intro hc) | (refine zs4 ?_ ?_ <;> intro hc)) | refine awp_split rfl (fun hb => ?_) (fun hb => ?_) | refine zr ?_ | exact x_le)
  refine awp_whileN (α := Nat × List (Nat × Nat) × Int) (fun x => ⟨[(0, strT l), (1, .fn (.func 101) [] []), (5, .own 0 0 x.2.1.length), (6, .int .i64 x.2.2), (14, .loc 1 0 0)], [(0, some (.els 126 2 (x.2.1.map spanT))), (1, some (.sit (str l) x.1))], 2, 65⟩) (fun x => Walk l x.1 x.2.1 x.2.2 ∧ x.2.1.length ≤ x.1) (fun x => l.length - x.1) (0, [], -1) ?h0 ⟨walk0 l, Nat.le_refl _⟩ ?_
  case h0 => exact (by exact x_le)
  rintro ⟨k, A, st⟩ ⟨hW, hAk⟩
  dsimp only at hW hAk ⊢
  have hle := hW.le
  by_cases hk2 : k < l.length
  · have e1 : l[k]? = some l[k] := by simp [hk2]
    obtain ⟨c, wd, hdec, d1, d2, d3, hcase⟩ := rune_at l k hk2
    have hps : k < (str l).size := by rw [hsz]; exact hk2
    rcases hcase with ⟨b, g1, g2, g3, g4⟩ | ⟨_, g2⟩
    · subst g4
      have hw : k + 1 ≤ SLIM := by simp only [SLIM]; omega
      have c1 := parts_v (n := (c : Int))
      have hsep : sepI (c : Int) = sepB b := by unfold sepB; rw [g3]
      rw [hsep] at c1
      have hfr : -9223372036854775808 ≤ st ∧ st ≤ 9223372036854775807 := by
        rcases hW.rest with ⟨h1, h2, _⟩ | ⟨a, h1, h2, _⟩ <;> omega
      cases hs : sepB b with
      | true =>
        rw [hs] at c1
        by_cases h0 : 0 ≤ st
        · obtain ⟨a, rfl⟩ := Int.eq_ofNat_of_zero_le h0
          have hW2 := hW.sep_in hl g1 hs
          repeat' (first | refine zt ?_ | (refine isR ?_; first | refine zo ?_ | refine x_next _ _ ?_ | refine x_callv (c1 _) ?_ | refine x_callv (c1) ?_ | refine x_app spanT (a1 := ((a, k))) tb_ok ?_ | refine x_xor ?_ | refine x_bs tb_ok ?_ | refine zA ?_ | refine zL ?_ | refine zc1 ?_ | refine zc4 ?_ | refine zI ?_ | refine zS ?_ | (refine zs1 ?_ ?_ <;> intro hc) | (refine zs4 ?_ ?_ <;> intro hc)) | refine awp_split rfl (fun hb => ?_) (fun hb => ?_) | refine zr ?_ | exact x_le)
          refine ⟨(k + 1, A ++ [(a, k)], -1 - (a : Int)), ⟨hW2, by simp; omega⟩, by show l.length - (k + 1) < l.length - k; omega, ?_⟩
          exact (by exact x_len [2,1])
        · have hW2 := hW.sep_out (by omega) g1 hs
          repeat' (first | refine zt ?_ | (refine isR ?_; first | refine zo ?_ | refine x_next _ _ ?_ | refine x_callv (c1 _) ?_ | refine x_callv (c1) ?_ | refine x_bs tb_ok ?_ | refine zA ?_ | refine zL ?_ | refine zc1 ?_ | refine zc4 ?_ | refine zI ?_ | refine zS ?_ | (refine zs1 ?_ ?_ <;> intro hc) | (refine zs4 ?_ ?_ <;> intro hc)) | refine awp_split rfl (fun hb => ?_) (fun hb => ?_) | refine zr ?_ | exact x_le)
          refine ⟨(k + 1, A, st), ⟨hW2, by show A.length ≤ k + 1; omega⟩, by show l.length - (k + 1) < l.length - k; omega, ?_⟩
          exact (by exact x_len [0,1])
      | false =>
        rw [hs] at c1
        by_cases h0 : st < 0
        · have hW2 := hW.in_out h0 g1 hs
          repeat' (first | refine zt ?_ | (refine isR ?_; first | refine zo ?_ | refine x_next _ _ ?_ | refine x_callv (c1 _) ?_ | refine x_callv (c1) ?_ | refine x_bs tb_ok ?_ | refine zA ?_ | refine zL ?_ | refine zc1 ?_ | refine zc4 ?_ | refine zI ?_ | refine zS ?_ | (refine zs1 ?_ ?_ <;> intro hc) | (refine zs4 ?_ ?_ <;> intro hc)) | refine awp_split rfl (fun hb => ?_) (fun hb => ?_) | refine zr ?_ | exact x_le)
          refine ⟨(k + 1, A, (k : Int)), ⟨hW2, by show A.length ≤ k + 1; omega⟩, by show l.length - (k + 1) < l.length - k; omega, ?_⟩
          exact (by exact x_len [0,1])
        · obtain ⟨a, rfl⟩ := Int.eq_ofNat_of_zero_le (show 0 ≤ st by omega)
          have hW2 := hW.in_in g1 hs
          repeat' (first | refine zt ?_ | (refine isR ?_; first | refine zo ?_ | refine x_next _ _ ?_ | refine x_callv (c1 _) ?_ | refine x_callv (c1) ?_ | refine x_bs tb_ok ?_ | refine zA ?_ | refine zL ?_ | refine zc1 ?_ | refine zc4 ?_ | refine zI ?_ | refine zS ?_ | (refine zs1 ?_ ?_ <;> intro hc) | (refine zs4 ?_ ?_ <;> intro hc)) | refine awp_split rfl (fun hb => ?_) (fun hb => ?_) | refine zr ?_ | exact x_le)
          refine ⟨(k + 1, A, (a : Int)), ⟨hW2, by show A.length ≤ k + 1; omega⟩, by show l.length - (k + 1) < l.length - k; omega, ?_⟩
          exact (by exact x_len [0,1])
    · exfalso
      obtain ⟨b, f1, f2⟩ := g2 k (Nat.le_refl _) (by omega)
      have := hlow b (List.mem_of_getElem? f1)
      omega
  · have hps : ¬ k < (str l).size := by rw [hsz]; exact hk2
    obtain rfl : k = l.length := by omega
    rcases hW.rest with ⟨h1, _, h3⟩ | ⟨a, rfl, h2, h3⟩
    · have hw : A.map (piece l) = wordsF l := by rw [h3, List.drop_length, wordsG, if_pos rfl, List.append_nil]
      have hok := hW.ok
      repeat' (first | refine zt ?_ | (refine isR ?_; first | refine zo ?_ | refine x_nextE ?_ | refine x_mkN strT [] A.length tb_ok ?_ | refine x_bs tb_ok ?_ | refine zA ?_ | refine zL ?_ | refine zc1 ?_ | refine zc4 ?_ | refine zI ?_ | refine zS ?_ | (refine zs1 ?_ ?_ <;> intro hc) | (refine zs4 ?_ ?_ <;> intro hc)) | refine awp_split rfl (fun hb => ?_) (fun hb => ?_) | refine zr ?_ | exact x_le)
      refine awp_for (fun j => ⟨[(0, strT l), (5, .own 0 0 A.length), (9, .own 2 0 (outF l A j).length), (47, .own 0 0 A.length), (48, .int .i64 A.length), (49, .int .i64 (j : Int))], [(0, some (.els 126 2 (A.map spanT))), (2, some (.els 9 1 ((outF l A j).map strT)))], 3, 65⟩) (fun j => j ≤ A.length) A.length 0 (by simp only [out0, List.length_replicate]; exact (by exact x_le)) (Nat.zero_le _) ?_
      intro j hj
      by_cases hj2 : j < A.length
      · have f1 : A[j]? = some A[j] := by simp [hj2]
        have f2 := out_on (l := l) f1
        have f3 := out_at (l := l) hj2
        have f4 := hok A[j] (List.getElem_mem hj2)
        have f5 := out_len (l := l) (A := A) (j := j) hj
        simp only [f2, List.length_set]
        generalize A[j] = q at *
        obtain ⟨qa, qb⟩ := q
        dsimp only at f4
        have f6 : (A.map spanT)[j]? = some (spanT (qa, qb)) := by rw [List.getElem?_map, f1]; rfl
        generalize outF l A j = O at *
        repeat' (first | refine zt ?_ | (refine isR ?_; first | refine zo ?_ | refine x_ldI spanT j tb_ok ?_ | refine x_stI strT (a1 := piece l (qa, qb)) j tb_ok ?_ | refine x_bs tb_ok ?_ | refine zA ?_ | refine zL ?_ | refine zc1 ?_ | refine zc4 ?_ | refine zI ?_ | refine zS ?_ | (refine zs1 ?_ ?_ <;> intro hc) | (refine zs4 ?_ ?_ <;> intro hc)) | refine awp_split rfl (fun hb => ?_) (fun hb => ?_) | refine zr ?_ | exact x_le)
        refine ⟨by omega, hj2, ?_⟩
        exact (by exact x_le)
      · obtain rfl : j = A.length := by omega
        rw [out_end]
        rw [hw]
        repeat' (first | refine zt ?_ | (refine isR ?_; first | refine zo ?_ | refine x_bs tb_ok ?_ | refine zA ?_ | refine zL ?_ | refine zc1 ?_ | refine zc4 ?_ | refine zI ?_ | refine zS ?_ | (refine zs1 ?_ ?_ <;> intro hc) | (refine zs4 ?_ ?_ <;> intro hc)) | refine awp_split rfl (fun hb => ?_) (fun hb => ?_) | refine zr ?_ | exact x_le)
        show V.fro (List.take (wordsF l).length (List.drop 0 ((wordsF l).map strT))) = _
        rw [List.drop_zero, List.take_of_length_le (by simp)]
    · have hw : (A ++ [(a, l.length)]).map (piece l) = wordsF l := by
        rw [h3, List.drop_length, wordsG, if_neg (piece_ne h2 (Nat.le_refl _)), List.map_append]; rfl
      have hok : ∀ q ∈ A ++ [(a, l.length)], q.1 ≤ q.2 ∧ q.2 ≤ l.length := fun q hq => by
        rcases List.mem_append.1 hq with hq | hq
        · exact hW.ok q hq
        · rw [List.mem_singleton] at hq; subst hq; exact ⟨by show a ≤ l.length; omega, Nat.le_refl _⟩
      have hal : (A ++ [(a, l.length)]).length ≤ 401 := by simp; omega
      generalize hA : A ++ [(a, l.length)] = A2 at *
      repeat' (first | refine zt ?_ | (refine isR ?_; first | refine zo ?_ | refine x_nextE ?_ | refine x_app spanT (a1 := ((a, l.length))) tb_ok ?_ | refine x_bs tb_ok ?_ | refine zA ?_ | refine zL ?_ | refine zc1 ?_ | refine zc4 ?_ | refine zI ?_ | refine zS ?_ | (refine zs1 ?_ ?_ <;> intro hc) | (refine zs4 ?_ ?_ <;> intro hc)) | refine awp_split rfl (fun hb => ?_) (fun hb => ?_) | refine zr ?_ | exact x_le)
      rw [hA]
      repeat' (first | refine zt ?_ | (refine isR ?_; first | refine zo ?_ | refine x_mkN strT [] A2.length tb_ok ?_ | refine x_bs tb_ok ?_ | refine zA ?_ | refine zL ?_ | refine zc1 ?_ | refine zc4 ?_ | refine zI ?_ | refine zS ?_ | (refine zs1 ?_ ?_ <;> intro hc) | (refine zs4 ?_ ?_ <;> intro hc)) | refine awp_split rfl (fun hb => ?_) (fun hb => ?_) | refine zr ?_ | exact x_le)
      refine awp_for (fun j => ⟨[(0, strT l), (5, .own 2 0 A2.length), (9, .own 3 0 (outF l A2 j).length), (47, .own 2 0 A2.length), (48, .int .i64 A2.length), (49, .int .i64 (j : Int))], [(2, some (.els 126 2 (A2.map spanT))), (3, some (.els 9 1 ((outF l A2 j).map strT)))], 4, 65⟩) (fun j => j ≤ A2.length) A2.length 0 (by simp only [out0, List.length_replicate]; exact (by exact x_le)) (Nat.zero_le _) ?_
      intro j hj
      by_cases hj2 : j < A2.length
      · have f1 : A2[j]? = some A2[j] := by simp [hj2]
        have f2 := out_on (l := l) f1
        have f3 := out_at (l := l) hj2
        have f4 := hok A2[j] (List.getElem_mem hj2)
        have f5 := out_len (l := l) (A := A2) (j := j) hj
        simp only [f2, List.length_set]
        generalize A2[j] = q at *
        obtain ⟨qa, qb⟩ := q
        dsimp only at f4
        have f6 : (A2.map spanT)[j]? = some (spanT (qa, qb)) := by rw [List.getElem?_map, f1]; rfl
        generalize outF l A2 j = O at *
        repeat' (first | refine zt ?_ | (refine isR ?_; first | refine zo ?_ | refine x_ldI spanT j tb_ok ?_ | refine x_stI strT (a1 := piece l (qa, qb)) j tb_ok ?_ | refine x_bs tb_ok ?_ | refine zA ?_ | refine zL ?_ | refine zc1 ?_ | refine zc4 ?_ | refine zI ?_ | refine zS ?_ | (refine zs1 ?_ ?_ <;> intro hc) | (refine zs4 ?_ ?_ <;> intro hc)) | refine awp_split rfl (fun hb => ?_) (fun hb => ?_) | refine zr ?_ | exact x_le)
        refine ⟨by omega, hj2, ?_⟩
        exact (by exact x_le)
      · obtain rfl : j = A2.length := by omega
        rw [out_end]
        rw [hw]
        repeat' (first | refine zt ?_ | (refine isR ?_; first | refine zo ?_ | refine x_bs tb_ok ?_ | refine zA ?_ | refine zL ?_ | refine zc1 ?_ | refine zc4 ?_ | refine zI ?_ | refine zS ?_ | (refine zs1 ?_ ?_ <;> intro hc) | (refine zs4 ?_ ?_ <;> intro hc)) | refine awp_split rfl (fun hb => ?_) (fun hb => ?_) | refine zr ?_ | exact x_le)
        show V.fro (List.take (wordsF l).length (List.drop 0 ((wordsF l).map strT))) = _
        rw [List.drop_zero, List.take_of_length_le (by simp)]
end Go.Proofs.YtkgdkpiacencjaaGreatDoor.StampF
namespace Go.Proofs.YtkgdkpiacencjaaGreatDoor.StampG
open Go.RowKit Mem Abs TreeW WordP WordS HostP HostO HostA PathT StampP StampA StampB StampC StampD StampE StampF Lead ClockP ClockV

theorem low_eq {c : UInt8} (h : c.toNat ≤ 126) : lowB c = c := by unfold lowB; rw [if_neg (by omega)]
theorem low_hi {c : UInt8} (h : ¬ c.toNat ≤ 126) : lowB c = 122 := by unfold lowB; rw [if_pos (by omega)]
theorem low_sep (c : UInt8) : sepB (lowB c) = sepB c := by
  by_cases h : c.toNat ≤ 126
  · rw [low_eq h]
  · rw [low_hi h]
    unfold sepB sepI
    have e : ((122 : UInt8).toNat : Int) = 122 := rfl
    rw [e]
    have h2 : (126 : Int) < (c.toNat : Int) := by omega
    rw [Bool.eq_iff_iff]
    simp only [Bool.or_eq_true, Bool.and_eq_true, decide_eq_true_eq]
    omega
theorem low_dig (c : UInt8) : digB (lowB c) = digB c := by
  by_cases h : c.toNat ≤ 126
  · rw [low_eq h]
  · rw [low_hi h, Bool.eq_iff_iff]
    unfold digB
    simp only [Bool.and_eq_true, decide_eq_true_eq]
    have e : (122 : UInt8).toNat = 122 := rfl
    rw [e]; omega
theorem low_sign {c d : UInt8} (hd : d.toNat ≤ 121) : lowB c = d ↔ c = d := by
  by_cases h : c.toNat ≤ 126
  · rw [low_eq h]
  · rw [low_hi h]
    constructor
    · intro e
      rw [← e] at hd; exact absurd hd (by decide)
    · intro e
      rw [e] at h; omega
theorem words_low : ∀ (l cur : List UInt8), wordsG (cur.map lowB) (l.map lowB) = (wordsG cur l).map (List.map lowB)
  | [], cur => by
    simp only [List.map_nil, wordsG]
    by_cases h : cur = []
    · subst h; rfl
    · rw [if_neg (by simpa using h), if_neg h]; rfl
  | c :: r, cur => by
    simp only [List.map_cons, wordsG, low_sep]
    by_cases hs : sepB c = true
    · rw [if_pos hs, if_pos hs]
      by_cases h : cur = []
      · subst h
        rw [List.map_nil, if_pos rfl, if_pos rfl]
        exact words_low r []
      · rw [if_neg (by simpa using h), if_neg h, List.map_cons]
        rw [← words_low r []]; rfl
    · rw [if_neg hs, if_neg hs]
      have := words_low r (cur ++ [c])
      rw [List.map_append] at this
      exact this
theorem lead_low (w : List UInt8) : lead (w.map lowB) = lead w := by
  unfold lead
  induction w with
  | nil => rfl
  | cons c r ih =>
    rw [List.map_cons, List.takeWhile_cons, List.takeWhile_cons, low_dig]
    split
    · rename_i h
      have hc : c.toNat ≤ 126 := by unfold digB at h; simp at h; omega
      rw [ih, low_eq hc]
    · rfl
theorem dig_low (w : List UInt8) (lo hi : Nat) : digF (w.map lowB) lo hi = ((digF w lo hi).1, (digF w lo hi).2.1.map lowB, (digF w lo hi).2.2) := by
  unfold digF
  rw [lead_low]
  split
  · rfl
  · simp
theorem cut_low (w : List UInt8) : cutP (w.map lowB) [58] = ((cutP w [58]).1.map lowB, (cutP w [58]).2) := by
  have hp : pre (w.map lowB) [58] = pre w [58] := by
    unfold pre
    cases w with
    | nil => rfl
    | cons c r =>
      rw [Bool.eq_iff_iff, decide_eq_true_eq, decide_eq_true_eq]
      show [lowB c] = [58] ↔ [c] = [58]
      rw [List.cons.injEq, List.cons.injEq, low_sign (by decide)]
  unfold cutP
  rw [hp]
  split
  · simp
  · rfl
theorem day_low (w : List UInt8) (h mi s : Int) : dayTimeF (w.map lowB) h mi s = dayTimeF w h mi s := by
  unfold dayTimeF
  simp only [dig_low, cut_low]
theorem foldB_low {c x : UInt8} (hx : x.toNat ≤ 121) : foldB (lowB c) = x ↔ foldB c = x := by
  by_cases h : c.toNat ≤ 126
  · rw [low_eq h]
  · rw [low_hi h]
    have h2 := foldB_nat c
    rw [if_neg (by omega)] at h2
    constructor
    · intro e
      have : foldB 122 = 122 := by decide
      rw [this] at e
      rw [← e] at hx; exact absurd hx (by decide)
    · intro e
      rw [e] at h2; omega
theorem fold_low : ∀ (w m : List UInt8), (∀ x ∈ m, x.toNat ≤ 121) → (fold (w.map lowB) = m ↔ fold w = m)
  | [], m, _ => Iff.rfl
  | c :: r, [], _ => by simp [fold]
  | c :: r, x :: m, h => by
    have ih := fold_low r m fun y hy => h y (by simp [hy])
    unfold fold at *
    rw [List.map_cons, List.map_cons, List.map_cons, List.cons.injEq, List.cons.injEq, foldB_low (h x (by simp)), ih]
theorem month_low (w : List UInt8) : monthF (w.map lowB) = monthF w := by
  unfold monthF
  rw [List.length_map, ← List.map_take]
  have : ∀ m ∈ months, (fold ((w.take 3).map lowB) == m) = (fold (w.take 3) == m) := fun m hm => by
    rw [Bool.eq_iff_iff, beq_iff_eq, beq_iff_eq]
    refine fold_low _ _ fun x hx => ?_
    have : (months.all fun m => m.all fun x => decide (x.toNat ≤ 121)) = true := by decide +kernel
    exact of_decide_eq_true (List.all_eq_true.1 (List.all_eq_true.1 this m hm) x hx)
  have e : months.findIdx? (fun m => fold ((w.take 3).map lowB) == m) = months.findIdx? (fun m => fold (w.take 3) == m) := by
    have gen : ∀ L : List (List UInt8), (∀ m ∈ L, (fold ((w.take 3).map lowB) == m) = (fold (w.take 3) == m)) → L.findIdx? (fun m => fold ((w.take 3).map lowB) == m) = L.findIdx? (fun m => fold (w.take 3) == m) := fun L => by
      induction L with
      | nil => intro _; rfl
      | cons m L ih =>
        intro h
        rw [List.findIdx?_cons, List.findIdx?_cons, h m (by simp), ih fun x hx => h x (by simp [hx])]
    exact gen months this
  rw [e]
theorem take_low (r : RD) (w : List UInt8) : takeF r (w.map lowB) = takeF r w := by
  unfold takeF
  simp only [day_low, dig_low, month_low]
def foundF (s : List UInt8) : RD := (wordsF s).foldl takeF rd0
theorem found_low (s : List UInt8) : (wordsF (s.map lowB)).foldl takeF rd0 = foundF s := by
  unfold foundF wordsF
  have := words_low s []
  rw [List.map_nil] at this
  rw [this, List.foldl_map]
  congr 1
  funext r w
  exact take_low r w
noncomputable def readF (s : List UInt8) : Int × Int :=
  if 400 < s.length then (0, 2) else
  if (foundF s).f0 && ((foundF s).f1 && ((foundF s).f2 && (foundF s).f3)) then ofF (foundF s).y (foundF s).m (foundF s).d (foundF s).h (foundF s).mi (foundF s).s else (0, 1)
theorem words_len : ∀ (l cur : List UInt8), (wordsG cur l).length ≤ l.length + 1
  | [], cur => by unfold wordsG; split <;> simp
  | c :: r, cur => by
    unfold wordsG
    have h1 := words_len r []
    have h2 := words_len r (cur ++ [c])
    split
    · split
      · simp; omega
      · simp; omega
    · simp; omega
set_option maxRecDepth 100000 in
set_option maxHeartbeats 4000000 in
theorem read_v {g : Glob} (hg : HasMax g) {s : List UInt8} : ACallsG Tryz.prog g 70 [strT s] (.tup [.int .i64 (readF s).1, .int .i64 (readF s).2]) := by
  by_cases hl : 400 < s.length
  · have e : readF s = (0, 2) := by unfold readF; rw [if_pos hl]
    rw [e]
    refine funG1 tb_ok Tryz.func70 rfl Tryz.ntmps70 Tryz.results70 rfl fun N => ?_
    repeat' (first | refine zt ?_ | (refine isR ?_; first | refine zo ?_ | refine zA ?_ | refine zL ?_ | refine zc1 ?_ | refine zc3 ?_ | refine zc6 ?_ | refine zI ?_ | (refine zs1 ?_ ?_ <;> intro hc) | (refine zs3 ?_ ?_ <;> intro hc) | (refine zs6 ?_ ?_ <;> intro hc)) | refine awp_split rfl (fun hb => ?_) (fun hb => ?_) | refine zr ?_ | exact x_le)
    rfl
  · have e : readF s = if (foundF s).f0 && ((foundF s).f1 && ((foundF s).f2 && (foundF s).f3)) then ofF (foundF s).y (foundF s).m (foundF s).d (foundF s).h (foundF s).mi (foundF s).s else (0, 1) := by unfold readF; rw [if_neg hl]
    have c1 := bytes_v (s := s) (by omega)
    have c2 := fields_v (l := s.map lowB) (by simp; omega) (fun b hb => by obtain ⟨c, _, rfl⟩ := List.mem_map.1 hb; exact low_lt c)
    have hf := found_low s
    have hwl := words_len (s.map lowB) []
    rw [List.length_map] at hwl
    have hwl : (wordsF (s.map lowB)).length ≤ s.length + 1 := hwl
    generalize wordsF (s.map lowB) = ws at *
    generalize s.map lowB = t at *
    have hx : ((ws.map strT).length : Int) = (ws.length : Int) := by simp
    have h00 : (ws.take 0).foldl takeF rd0 = rd0 := rfl
    refine funG1 tb_ok Tryz.func70 rfl Tryz.ntmps70 Tryz.results70 rfl fun N => ?_
    repeat' (first | refine zt ?_ | (refine isR ?_; first | refine zo ?_ | refine zk c1 ?_ | refine zk c2 ?_ | refine zA ?_ | refine zL ?_ | refine zc1 ?_ | refine zc3 ?_ | refine zc6 ?_ | refine zI ?_ | (refine zs1 ?_ ?_ <;> intro hc) | (refine zs3 ?_ ?_ <;> intro hc) | (refine zs6 ?_ ?_ <;> intro hc)) | refine awp_split rfl (fun hb => ?_) (fun hb => ?_) | refine zr ?_ | exact x_le)
    refine awp_for (fun k => ⟨[(4, .loc 0 0 0), (12, strsT ws), (13, .int .i64 (ws.map strT).length), (14, .int .i64 (k : Int))], [(0, some (rowR ((ws.take k).foldl takeF rd0)))], 1, 30⟩) (fun k => k ≤ ws.length) ws.length 0 (by exact x_le) (Nat.zero_le _) ?_
    intro k hk
    by_cases hk2 : k < ws.length
    · have e1 : (ws.map strT)[k]? = some (strT ws[k]) := by simp [hk2]
      have e2 : (ws.take (k + 1)).foldl takeF rd0 = takeF ((ws.take k).foldl takeF rd0) ws[k] := by rw [List.take_succ_eq_append_getElem hk2, List.foldl_append]; rfl
      simp only [e2]
      generalize ws[k] = w at *
      generalize (ws.take k).foldl takeF rd0 = r at *
      have c3 := take_v hg (r := r) (w := w)
      generalize takeF r w = r2 at *
      repeat' (first | refine zt ?_ | (refine isR ?_; first | refine zo ?_ | refine x_m [0] [] (c3 _) ?_ | refine x_m0 [0] [] (c3 _) ?_ | refine x_m [0] [] (c3) ?_ | refine x_m0 [0] [] (c3) ?_ | refine zA ?_ | refine zL ?_ | refine zc1 ?_ | refine zc3 ?_ | refine zc6 ?_ | refine zI ?_ | (refine zs1 ?_ ?_ <;> intro hc) | (refine zs3 ?_ ?_ <;> intro hc) | (refine zs6 ?_ ?_ <;> intro hc)) | refine awp_split rfl (fun hb => ?_) (fun hb => ?_) | refine zr ?_ | exact x_le)
      refine ⟨by omega, hk2, ?_⟩
      exact (by exact x_le)
    · obtain rfl : k = ws.length := by omega
      rw [List.take_length, hf]
      rw [e]
      clear e hf
      generalize foundF s = r at *
      obtain ⟨r1, r2, r3, r4, r5, r6, r7, r8, r9, r10⟩ := r
      dsimp only
      have c4 := of_v (y := r1) (m := r2) (d := r3) (h := r4) (mi := r5) (s := r6)
      generalize ofF r1 r2 r3 r4 r5 r6 = o at *
      cases r7
      · skip
        repeat' (first | refine zt ?_ | (refine isR ?_; first | refine zo ?_ | refine x_neqR tb_ok ?_ | refine zk c4 ?_ | refine zA ?_ | refine zL ?_ | refine zc1 ?_ | refine zc3 ?_ | refine zc6 ?_ | refine zI ?_ | (refine zs1 ?_ ?_ <;> intro hc) | (refine zs3 ?_ ?_ <;> intro hc) | (refine zs6 ?_ ?_ <;> intro hc)) | refine awp_split rfl (fun hb => ?_) (fun hb => ?_) | refine zr ?_ | exact x_le)
        rfl
      · cases r8
        · skip
          repeat' (first | refine zt ?_ | (refine isR ?_; first | refine zo ?_ | refine x_neqR tb_ok ?_ | refine zk c4 ?_ | refine zA ?_ | refine zL ?_ | refine zc1 ?_ | refine zc3 ?_ | refine zc6 ?_ | refine zI ?_ | (refine zs1 ?_ ?_ <;> intro hc) | (refine zs3 ?_ ?_ <;> intro hc) | (refine zs6 ?_ ?_ <;> intro hc)) | refine awp_split rfl (fun hb => ?_) (fun hb => ?_) | refine zr ?_ | exact x_le)
          rfl
        · cases r9
          · skip
            repeat' (first | refine zt ?_ | (refine isR ?_; first | refine zo ?_ | refine x_neqR tb_ok ?_ | refine zk c4 ?_ | refine zA ?_ | refine zL ?_ | refine zc1 ?_ | refine zc3 ?_ | refine zc6 ?_ | refine zI ?_ | (refine zs1 ?_ ?_ <;> intro hc) | (refine zs3 ?_ ?_ <;> intro hc) | (refine zs6 ?_ ?_ <;> intro hc)) | refine awp_split rfl (fun hb => ?_) (fun hb => ?_) | refine zr ?_ | exact x_le)
            rfl
          · cases r10
            · skip
              repeat' (first | refine zt ?_ | (refine isR ?_; first | refine zo ?_ | refine x_neqR tb_ok ?_ | refine zk c4 ?_ | refine zA ?_ | refine zL ?_ | refine zc1 ?_ | refine zc3 ?_ | refine zc6 ?_ | refine zI ?_ | (refine zs1 ?_ ?_ <;> intro hc) | (refine zs3 ?_ ?_ <;> intro hc) | (refine zs6 ?_ ?_ <;> intro hc)) | refine awp_split rfl (fun hb => ?_) (fun hb => ?_) | refine zr ?_ | exact x_le)
              rfl
            · skip
              repeat' (first | refine zt ?_ | (refine isR ?_; first | refine zo ?_ | refine x_neqR tb_ok ?_ | refine zk c4 ?_ | refine zA ?_ | refine zL ?_ | refine zc1 ?_ | refine zc3 ?_ | refine zc6 ?_ | refine zI ?_ | (refine zs1 ?_ ?_ <;> intro hc) | (refine zs3 ?_ ?_ <;> intro hc) | (refine zs6 ?_ ?_ <;> intro hc)) | refine awp_split rfl (fun hb => ?_) (fun hb => ?_) | refine zr ?_ | exact x_le)
              rfl
end Go.Proofs.YtkgdkpiacencjaaGreatDoor.StampG
end
