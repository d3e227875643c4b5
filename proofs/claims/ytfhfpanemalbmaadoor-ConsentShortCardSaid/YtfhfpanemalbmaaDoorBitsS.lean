/- The walks of bits.Sink: Put and Text. -/
import Derived.Test.YtfhfpanemalbmaaDoorProg
import Derived.Test.YtfhfpanemalbmaaDoorBitsP
import Derived.Test.YtfhfpanemalbmaaDoorSeq
import Derived.WalkKit
import Derived.WalkLawsBesides
import Derived.WalkSpells
import Derived.Outline
import Derived.Deep.Light
import Derived.LoopTactic
import Derived.IntWalk
import Derived.BigQuiet
import Derived.Laws.Bits64
import Derived.Laws.BitsAllLaws
import Derived.OneCell
import Derived.RangeFuncBox
namespace Go.Proofs.YtfhfpanemalbmaaDoor.BitsS
open Go.RowKit Mem BitsP

theorem elemU8 : Elem Tryd.prog 68 5 1 1 := Elem.mk Tryd.underlying68 (by kernel_rfl : (Tryd.prog.info? 5).map (fun i => (i.zero, i.size, i.bytes)) = some (some (.int .u8 0), 1, 1)) rfl (by decide)
def leftOf (l : List Nat) : Nat := 8 * ((l.length + 7) / 8) - l.length
def u8s (l : List Nat) : List Value := l.map fun n : Nat => Value.int .u8 (n : Int)
/-- The sink at block g holds these bits; the blocks that p names are none of its. -/
def SinkT (T : Nat) (w : World) (g : Nat) (p : Nat → Prop) (l : List Nat) : Prop :=
  (∀ k, p k → k < w.heap.size ∧ k ≠ g) ∧ ∃ v, w.heap[g]? = some (.cells #[v, .int .i64 (leftOf l)] T (0, 0)) ∧ (∀ k, v.ownBlock = some k → ¬ p k ∧ k ≠ g) ∧ w.ownsRow 0 5 1 v (packB l).length (u8s (packB l))
abbrev SinkAt := SinkT 70

/-- The sink behind its test: a byte has room. -/
def RoomT (T : Nat) (w : World) (g : Nat) (p : Nat → Prop) (l : List Nat) (r cap : Nat) : Prop :=
  (∀ k, p k → k < w.heap.size ∧ k ≠ g) ∧ w.heap[g]? = some (.cells #[.slice (some ⟨r, 0, none⟩) (l.length / 8 + 1) cap, .int .i64 ((7 - l.length % 8 : Nat) : Int)] T (0, 0)) ∧ ¬ p r ∧ r ≠ g ∧ w.ownsRow 0 5 1 (.slice (some ⟨r, 0, none⟩) (l.length / 8 + 1) cap) (l.length / 8 + 1) (u8s (packBZ l))
section
variable {T : Nat}
theorem room_put {w : World} {g : Nat} {p : Nat → Prop} {l : List Nat} {r cap : Nat} (h : RoomT T w g p l r cap) (b : Nat) : SinkT T (w.setCell ⟨r, l.length / 8, none⟩ (.int .u8 ((byteAt l (l.length / 8) + b * 2 ^ (7 - l.length % 8) : Nat) : Int))) g p (l ++ [b]) := by
  obtain ⟨hp, hg, hr, hrg, hown⟩ := h
  refine ⟨fun k hk => ⟨by simpa [World.setCell] using (hp k hk).1, (hp k hk).2⟩, .slice (some ⟨r, 0, none⟩) (l.length / 8 + 1) cap, ?_, ?_, ?_⟩
  · rw [heap_setCell_other _ _ _ _ (by simpa using hrg.symm), hg]
    simp only [leftOf, List.length_append, List.length_singleton]
    rw [show 8 * ((l.length + 1 + 7) / 8) - (l.length + 1) = 7 - l.length % 8 from by omega]
  · intro k hk; simp only [Value.ownBlock, Option.some.injEq] at hk; subst hk; exact ⟨hr, hrg⟩
  · rw [packB_len, List.length_append, List.length_singleton, show (l.length + 1 + 7) / 8 = l.length / 8 + 1 from by omega, packB_snoc]
    have := (hown.stored (l.length / 8) (.int .u8 ((byteAt l (l.length / 8) + b * 2 ^ (7 - l.length % 8) : Nat) : Int))).1
    simpa [u8s, List.map_set] using this
theorem room_old {w : World} {g : Nat} {p : Nat → Prop} {l : List Nat} (h : SinkT T w g p l) (hl : l.length % 8 ≠ 0) : ∃ r cap, w.heap[g]? = some (.cells #[.slice (some ⟨r, 0, none⟩) (l.length / 8 + 1) cap, .int .i64 ((7 - l.length % 8 + 1 : Nat) : Int)] T (0, 0)) ∧ RoomT T (w.setCell ⟨g, 1, none⟩ (.int .i64 ((7 - l.length % 8 : Nat) : Int))) g p l r cap := by
  obtain ⟨hp, v, hg, hv, hown⟩ := h
  have hn : (packB l).length = l.length / 8 + 1 := by rw [packB_len]; omega
  rw [hn, ← packBZ_old hl] at hown
  obtain ⟨r, cap, rfl⟩ := ownsRow_succ hown
  obtain ⟨hr, hrg⟩ := hv r rfl
  have hg' : w.heap[g]? = some (.cells #[.slice (some ⟨r, 0, none⟩) (l.length / 8 + 1) cap, .int .i64 ((7 - l.length % 8 + 1 : Nat) : Int)] T (0, 0)) := by
    rw [hg]; unfold leftOf; rw [show 8 * ((l.length + 7) / 8) - l.length = 7 - l.length % 8 + 1 from by omega]
  exact ⟨r, cap, hg', fun k hk => ⟨by simpa [World.setCell] using (hp k hk).1, (hp k hk).2⟩, two_set1 hg' _, hr, hrg, ownsRow_setCell_other hown (by simpa [Value.ownBlock] using hrg) _⟩
theorem room_new {w w1 : World} {g : Nat} {p : Nat → Prop} {l : List Nat} {o : Obj} {v v1 : Value} (hp : ∀ k, p k → k < w.heap.size ∧ k ≠ g) (hg : w.heap[g]? = some (.cells #[v, .int .i64 (0 : Int)] T (0, 0))) (hv : ∀ k, v.ownBlock = some k → ¬ p k ∧ k ≠ g) (hl : l.length % 8 = 0)
    (ho : w1.ownsRow 0 5 1 v1 ((packB l).length + 1) (u8s (packB l) ++ [.int .u8 0])) (gr : (w.alloc o).grownBy w1 v.ownBlock) (ha : v1.ownBlock = v.ownBlock ∨ v1.ownBlock = some (w.alloc o).heap.size) :
    ∃ r cap, v1 = .slice (some ⟨r, 0, none⟩) (l.length / 8 + 1) cap ∧ w1.heap[g]? = some (.cells #[v, .int .i64 (0 : Int)] T (0, 0)) ∧ RoomT T (((w1.setCell ⟨g, 0, none⟩ v1).setCell ⟨g, 1, none⟩ (.int .i64 8)).setCell ⟨g, 1, none⟩ (.int .i64 7)) g p l r cap ∧ Kept p w (((w1.setCell ⟨g, 0, none⟩ v1).setCell ⟨g, 1, none⟩ (.int .i64 8)).setCell ⟨g, 1, none⟩ (.int .i64 7)) := by
  have hgl := block_lt hg
  have hn : (packB l).length + 1 = l.length / 8 + 1 := by rw [packB_len]; omega
  have hz : u8s (packB l) ++ [.int .u8 0] = u8s (packBZ l) := by rw [packBZ_new hl]; simp [u8s]
  rw [hn, hz] at ho
  obtain ⟨r, cap, rfl⟩ := ownsRow_succ ho
  have hr : ¬ p r ∧ r ≠ g := by
    rcases ha with ha | ha
    · exact hv r (by rw [← ha]; rfl)
    · simp [Value.ownBlock] at ha
      subst ha
      exact ⟨fun h => absurd (hp _ h).1 (by omega), by omega⟩
  have hvg : v.ownBlock ≠ some g := fun e => (hv g e).2 rfl
  have h1 : w1.heap[g]? = some (.cells #[v, .int .i64 (0 : Int)] T (0, 0)) := by
    rw [gr.block g (by simp; omega) (fun e => hvg e.symm), Below.heap_alloc w o g hgl, hg]
  have hk : Kept p w w1 := ((Kept.refl p w).alloc o).grown gr (fun k e hp' => absurd hp' (hv k e).1)
  refine ⟨r, cap, rfl, h1, ⟨fun k hk' => ⟨?_, (hp k hk').2⟩, ?_, hr.1, hr.2, ?_⟩, ?_⟩
  · have := hk.size; have := (hp k hk').1; simp [World.setCell]; omega
  · rw [hl]; exact two_set1 (two_set1 (two_set0 h1 _) _) _
  · have hne : (Value.slice (some ⟨r, 0, none⟩) (l.length / 8 + 1) cap).ownBlock ≠ some g := by simpa [Value.ownBlock] using hr.2
    exact ownsRow_setCell_other (ownsRow_setCell_other (ownsRow_setCell_other ho hne _) hne _) hne _
  · have hq : p g → w.heap.size ≤ g := fun h => absurd rfl (hp g h).2
    exact ((hk.setCell hq _).setCell hq _).setCell hq _

theorem or_room (x b f : Nat) (hr : x % 2 ^ (f + 1) = 0) (hb : b < 2) : x ||| (b * 2 ^ f) = x + b * 2 ^ f := by
  refine nat_join (f + 1) x _ hr ?_
  have : 0 < 2 ^ f := Nat.two_pow_pos f
  rw [Nat.pow_succ, Nat.mul_comm]; exact Nat.mul_lt_mul_of_pos_left hb this
theorem or_wrap (x b f : Nat) (hx : x < 256) (hb : b < 2) (hf : f ≤ 7) (h : x ||| (b * 2 ^ f) = x + b * 2 ^ f) : bits BinOp.or IntKind.u8 (x : Int) (IntKind.u8.wrap (IntKind.u8.wrap (b : Int) * 2 ^ f)) = ((x + b * 2 ^ f : Nat) : Int) := by
  have hp : 2 ^ f ≤ 2 ^ 7 := Nat.pow_le_pow_right (by omega) hf
  have h1 : b * 2 ^ f < 256 := by
    have : b * 2 ^ f ≤ 1 * 2 ^ f := Nat.mul_le_mul_right _ (by omega)
    omega
  have e1 : IntKind.u8.wrap (b : Int) = ((b : Nat) : Int) := by rw [IntKind.wrap_u8']; omega
  have e2 : IntKind.u8.wrap (((b : Nat) : Int) * 2 ^ f) = ((b * 2 ^ f : Nat) : Int) := by
    have e : ((b : Nat) : Int) * 2 ^ f = ((b * 2 ^ f : Nat) : Int) := by simp
    rw [e, IntKind.wrap_u8']; omega
  rw [e1, e2, u8_or_nat x (b * 2 ^ f) hx h1, h]
theorem bit_of (n k : Nat) (hn : n < 18446744073709551616) : bits .and .u64 ((n : Int) / 2 ^ k) 1 = ((n / 2 ^ k % 2 : Nat) : Int) := by
  have e : ((n : Int) / 2 ^ k) = ((n / 2 ^ k : Nat) : Int) := by simp
  rw [e, show (1 : Int) = ((1 : Nat) : Int) from rfl, u64_and_nat _ 1 (Nat.lt_of_le_of_lt (Nat.div_le_self _ _) hn) (by omega), nat_mask1]
set_option maxRecDepth 100000 in
set_option maxHeartbeats 2000000 in
theorem put_any (g : Nat) (p : Nat → Prop) (l : List Nat) (n W : Nat) (hn : n < 18446744073709551616) (hW : W ≤ 64) (w : World) (hl : Bin l) (hlen : l.length + W ≤ 1125899906842624) (h : SinkT T w g p l) :
    Calls Tryd.prog 55 #[.pointer (some ⟨g, 0, none⟩), .int .u64 n, .int .i64 W] w (fun e w' => e = .returned (.tuple #[]) ∧ SinkT T w' g p (l ++ bitsOf n W) ∧ Kept p w w') := by
  go_enter Tryd.func55, Tryd.ntmps55
  go_wp2_with fail
  go_loopw [6] (fun i wr => ∃ (k : Nat) (pre : List Nat), k ≤ W ∧ i = .int .i64 ((k : Int) - 1) ∧ pre ++ bitsOf n k = bitsOf n W ∧ SinkT T wr g p (l ++ pre) ∧ Kept p w wr) (fun i _ => (intOf i + 1).toNat)
  case atStart => exact ⟨W, [], Nat.le_refl _, rfl, rfl, by simpa using h, Kept.refl _ _⟩
  case round =>
    obtain ⟨k, pre, hk, rfl, hpre, hsink, hkept⟩ := hrel
    have hlp : (l ++ pre).length + k = l.length + W := by
      have := congrArg List.length hpre; simp [bitsOf_len] at this; simp; omega
    have hbin : Bin (l ++ pre) := hl.app (Bin.left (by rw [hpre]; exact bitsOf_bin n W))
    have HP := Lib.hid hpre; clear hpre
    rcases k with _ | k
    · go_wp2_with fail
      go_end0
      have e1 := HP.out
      simp only [bitsOf, List.append_nil] at e1
      rw [← e1]
      exact ⟨rfl, hsink, hkept⟩
    · generalize hm : l ++ pre = m at hsink hlp hbin
      have HM := Lib.hid hm; clear hm
      have hmq : m.length / 8 + 1 ≤ 140737488355328 := by omega
      have HL := Lib.hid hlp; clear hlp
      by_cases hfr : m.length % 8 = 0
      · obtain ⟨hp, v, hg, hv, hown⟩ := hsink
        have hf0 : leftOf m = 0 := by unfold leftOf; omega
        rw [hf0] at hg
        obtain ⟨c0, c1, f0, f1⟩ := two_cells hg
        have hps : (packB m).length + 1 ≤ 140737488355328 := by rw [packB_len]; omega
        have Hg := Lib.hid hg; have HF := Lib.hid hf0; have HR := Lib.hid hfr; clear hg hf0 hfr
        go_wp2_with (first
          | (at_builtin
             refine app_at elemU8 rfl (.tmp 23) (.tmp 24) rfl 0 v (packB m).length _ rfl (hown.alloc _) ⟨wr.heap.size, 0, none⟩ 1 1 [.int .u8 0] (wr.heap.size + 1) rfl rfl (Row.lit wr _ [.int .u8 0] _ (by omega)) (by simp [Value.oneCell']) (by omega) (by omega) (Nat.zero_le _) ?_
             intro v1 w1 o1 g1 a1
             obtain ⟨r, cap, rfl, hg1, hroom, hk1⟩ := room_new hp Hg.out hv HR.out o1 g1 a1
             obtain ⟨d0, d1, e0, e1⟩ := two_cells hg1
             have Hg1 := Lib.hid hg1; have HO := Lib.hid o1; have HA := Lib.hid a1
             have HQ := Lib.hid hroom; have HK := Lib.hid hk1
             clear hg1 o1 a1 hroom hk1 c0 c1 f0 f1))
        have hroom := HQ.out; have hk1 := HK.out
        clear HQ HK HO HA Hg1 d0 d1 e0 e1 g1 hown Hg
        generalize (((w1.setCell ⟨g, 0, none⟩ (Value.slice (some ⟨r, 0, none⟩) (m.length / 8 + 1) cap)).setCell ⟨g, 1, none⟩ (Value.int .i64 8)).setCell ⟨g, 1, none⟩ (Value.int .i64 7)) = wq at hroom hk1 ⊢
        obtain ⟨hpq, hgq, hr, hrg, hownq⟩ := hroom
        obtain ⟨c0, c1, f0, f1⟩ := two_cells hgq
        have hx := byteAt_lt hbin (m.length / 8)
        have c2 : wq.cell? ⟨r, m.length / 8, none⟩ = some (.int .u8 ((byteAt m (m.length / 8) : Nat) : Int)) := by
          rw [hownq.cellAt (m.length / 8) (by omega)]; simp [u8s, packBZ_at]
        have f2 := hownq.frozenAt (m.length / 8)
        have hput := room_put ⟨hpq, hgq, hr, hrg, hownq⟩ (n / 2 ^ k % 2)
        have hor := or_room (byteAt m (m.length / 8)) (n / 2 ^ k % 2) (7 - m.length % 8) (by have := byteAt_room m; rwa [show 8 - m.length % 8 = 7 - m.length % 8 + 1 from by omega] at this) (by omega)
        have hbit := bit_of n k hn
        have hb2 : n / 2 ^ k % 2 < 2 := by omega
        have hbl : bitsOf n (k + 1) = [n / 2 ^ k % 2] ++ bitsOf n k := rfl
        have HBL := Lib.hid hbl
        clear hbl
        have hfin := or_wrap (byteAt m (m.length / 8)) (n / 2 ^ k % 2) (7 - m.length % 8) hx hb2 (by omega) hor
        generalize byteAt m (m.length / 8) + n / 2 ^ k % 2 * 2 ^ (7 - m.length % 8) = y at hput hfin
        have Hput := Lib.hid hput
        clear hput hor hgq hownq hpq hbin
        generalize byteAt m (m.length / 8) = x at hx c2 hfin
        generalize m.length / 8 = q at hmq c0 c2 f2 Hput ⊢
        have hf7 : 7 - m.length % 8 ≤ 7 := by omega
        generalize 7 - m.length % 8 = f at c1 hfin hf7 ⊢
        generalize n / 2 ^ k % 2 = b at hbit Hput hb2 HBL hfin
        have hb3 : (0 : Int) ≤ (b : Int) := by omega
        have hb4 : (b : Int) < 2 := by omega
        have hw1 : IntKind.i64.wrap (q : Int) = q := IntWalk.i64_in _ (by omega)
        have hw2 : (0 : Int) ≤ (q : Int) := by omega
        have hw3 : (q : Int) < (q : Int) + 1 := by omega
        refine Seq.region_seq (S := fun w' => w'.cell? ⟨g, 0, none⟩ = some (.slice (some ⟨r, 0, none⟩) (q + 1) cap) ∧ w'.cell? ⟨g, 1, none⟩ = some (.int .i64 (f : Int)))
          [(0, false), (1, false), (2, false), (3, false), (4, false), (5, false), (6, false), (7, false), (8, false), (9, false), (10, false), (12, false), (13, false), (14, false), (15, false), (16, false), (17, false), (18, false), (19, false), (20, false), (21, false), (11, true), (22, false), (23, false), (24, true)]
          (by kernel_rfl) (by kernel_rfl) (fun _ _ d _ _ h => by cases d <;> exact h) ⟨c0, c1⟩ ?_
        simp only [Seq.lay, List.getElem?_cons_zero, List.getElem?_cons_succ]
        repeat (first
          | (refine Seq.seq_read (v := ?_) (by rfl) ?_ ?_
             rotate_left
             · (intro w' hS; obtain ⟨s0, s1⟩ := hS; go_simp; with_reducible rfl)
             simp only [Act.put, List.setIfInBounds_toArray, List.set_cons_zero, List.set_cons_succ]))
        refine Seq.seq_do (by rfl) (fun K hK => ?_)
        go_simp
        refine hK _ _ ⟨c0, c1⟩ ?_
        clear hK K
        repeat (first
          | (refine Seq.seq_read (v := ?_) (by rfl) ?_ ?_
             rotate_left
             · (intro w' hS; obtain ⟨s0, s1⟩ := hS; go_simp; with_reducible rfl)
             simp only [Act.put, List.setIfInBounds_toArray, List.set_cons_zero, List.set_cons_succ]))
        refine Seq.seq_do (by rfl) (fun K hK => ?_)
        go_simp
        refine hK _ _ ⟨?_, ?_⟩ ?_
        · exact (World.cell?_of_block (w := wq) (heap_setCell_other _ _ _ _ (by simpa using hrg.symm))).trans c0
        · exact (World.cell?_of_block (w := wq) (heap_setCell_other _ _ _ _ (by simpa using hrg.symm))).trans c1
        clear hK K
        refine Seq.seq_nil ?_
        go_wp2_with fail
        go_roundw
        case rel =>
          refine ⟨k, pre ++ [b], by omega, by go_num, ?_, ?_, (hkept.trans hk1).setCell (fun h => absurd h hr) _ |>.drew⟩
          · rw [← HP.out, HBL.out, List.append_assoc]
          · rw [← List.append_assoc, HM.out]; exact Hput.out
        case measure => simp [intOf]
      · obtain ⟨r, cap, hg, hroom⟩ := room_old hsink hfr
        have hp := hsink.1
        have hk1 : Kept p wr (wr.setCell ⟨g, 1, none⟩ (.int .i64 ((7 - m.length % 8 : Nat) : Int))) := (Kept.refl p wr).setCell (fun h => absurd rfl (hp g h).2) _
        obtain ⟨c0, c1, f0, f1⟩ := two_cells hg
        have hfe : (((7 - m.length % 8 + 1 : Nat) : Int) == 0) = false := by simp; omega
        have hf7 : 7 - m.length % 8 ≤ 7 := by omega
        have HQ := Lib.hid hroom; have HK := Lib.hid hk1; have HR := Lib.hid hfr
        clear hg hroom hk1 hfr hsink hp
        generalize hfd : 7 - m.length % 8 = fr at c1 hfe hf7 HQ HK
        have HFD := Lib.hid hfd; clear hfd
        go_wp2_with fail
        have hroom := HQ.out; have hk1 := HK.out
        clear HQ HK c0 c1 f0 f1
        generalize wr.setCell ⟨g, 1, none⟩ (Value.int .i64 (fr : Int)) = wq at hroom hk1 ⊢
        clear hf7 hfe
        obtain ⟨hpq, hgq, hr, hrg, hownq⟩ := hroom
        obtain ⟨c0, c1, f0, f1⟩ := two_cells hgq
        have hx := byteAt_lt hbin (m.length / 8)
        have c2 : wq.cell? ⟨r, m.length / 8, none⟩ = some (.int .u8 ((byteAt m (m.length / 8) : Nat) : Int)) := by
          rw [hownq.cellAt (m.length / 8) (by omega)]; simp [u8s, packBZ_at]
        have f2 := hownq.frozenAt (m.length / 8)
        have hput := room_put ⟨hpq, hgq, hr, hrg, hownq⟩ (n / 2 ^ k % 2)
        have hor := or_room (byteAt m (m.length / 8)) (n / 2 ^ k % 2) (7 - m.length % 8) (by have := byteAt_room m; rwa [show 8 - m.length % 8 = 7 - m.length % 8 + 1 from by omega] at this) (by omega)
        have hbit := bit_of n k hn
        have hb2 : n / 2 ^ k % 2 < 2 := by omega
        have hbl : bitsOf n (k + 1) = [n / 2 ^ k % 2] ++ bitsOf n k := rfl
        have HBL := Lib.hid hbl
        clear hbl
        have hfin := or_wrap (byteAt m (m.length / 8)) (n / 2 ^ k % 2) (7 - m.length % 8) hx hb2 (by omega) hor
        generalize byteAt m (m.length / 8) + n / 2 ^ k % 2 * 2 ^ (7 - m.length % 8) = y at hput hfin
        have Hput := Lib.hid hput
        clear hput hor hgq hownq hpq hbin
        generalize byteAt m (m.length / 8) = x at hx c2 hfin
        generalize m.length / 8 = q at hmq c0 c2 f2 Hput ⊢
        have hf7 : 7 - m.length % 8 ≤ 7 := by omega
        generalize 7 - m.length % 8 = f at c1 hfin hf7 ⊢
        generalize n / 2 ^ k % 2 = b at hbit Hput hb2 HBL hfin
        have hb3 : (0 : Int) ≤ (b : Int) := by omega
        have hb4 : (b : Int) < 2 := by omega
        have hw1 : IntKind.i64.wrap (q : Int) = q := IntWalk.i64_in _ (by omega)
        have hw2 : (0 : Int) ≤ (q : Int) := by omega
        have hw3 : (q : Int) < (q : Int) + 1 := by omega
        refine Seq.region_seq (S := fun w' => w'.cell? ⟨g, 0, none⟩ = some (.slice (some ⟨r, 0, none⟩) (q + 1) cap) ∧ w'.cell? ⟨g, 1, none⟩ = some (.int .i64 (f : Int)))
          [(0, false), (1, false), (2, false), (3, false), (4, false), (5, false), (6, false), (7, false), (8, false), (9, false), (10, false), (12, false), (13, false), (14, false), (15, false), (16, false), (17, false), (18, false), (19, false), (20, false), (21, false), (11, true), (22, false), (23, false), (24, true)]
          (by kernel_rfl) (by kernel_rfl) (fun _ _ d _ _ h => by cases d <;> exact h) ⟨c0, c1⟩ ?_
        simp only [Seq.lay, List.getElem?_cons_zero, List.getElem?_cons_succ]
        repeat (first
          | (refine Seq.seq_read (v := ?_) (by rfl) ?_ ?_
             rotate_left
             · (intro w' hS; obtain ⟨s0, s1⟩ := hS; go_simp; with_reducible rfl)
             simp only [Act.put, List.setIfInBounds_toArray, List.set_cons_zero, List.set_cons_succ]))
        refine Seq.seq_do (by rfl) (fun K hK => ?_)
        go_simp
        refine hK _ _ ⟨c0, c1⟩ ?_
        clear hK K
        repeat (first
          | (refine Seq.seq_read (v := ?_) (by rfl) ?_ ?_
             rotate_left
             · (intro w' hS; obtain ⟨s0, s1⟩ := hS; go_simp; with_reducible rfl)
             simp only [Act.put, List.setIfInBounds_toArray, List.set_cons_zero, List.set_cons_succ]))
        refine Seq.seq_do (by rfl) (fun K hK => ?_)
        go_simp
        refine hK _ _ ⟨?_, ?_⟩ ?_
        · exact (World.cell?_of_block (w := wq) (heap_setCell_other _ _ _ _ (by simpa using hrg.symm))).trans c0
        · exact (World.cell?_of_block (w := wq) (heap_setCell_other _ _ _ _ (by simpa using hrg.symm))).trans c1
        clear hK K
        refine Seq.seq_nil ?_
        go_wp2_with fail
        go_roundw
        case rel =>
          refine ⟨k, pre ++ [b], by omega, by go_num, ?_, ?_, (hkept.trans hk1).setCell (fun h => absurd h hr) _ |>.drew⟩
          · rw [← HP.out, HBL.out, List.append_assoc]
          · rw [← List.append_assoc, HM.out]; exact Hput.out
        case measure => simp [intOf]
end
end Go.Proofs.YtfhfpanemalbmaaDoor.BitsS
