/- The walk of word.Parts: 'for p := range parts(s, b)', parts' closure writing its own s. -/
import Derived.RangeFuncNested
import Derived.RangeFuncBound
import Derived.RangeFuncCalls
import Derived.RangeFuncLeaves
import Derived.RangeFuncBox
import Derived.Shelf.Abstract
import Derived.Shelf.RegionOpen
import Derived.WalkKit
import Derived.OwnWalkIn
import Derived.TacticsInMore
import Derived.LoopNIn
import Derived.LoopIn
import Derived.Maps.AppendAt
import Derived.Test.YtbacakgjhohedaaDoorWordC
import Derived.Test.YtbacakgjhohedaaDoorRange
namespace Go.Proofs.YtbacakgjhohedaaDoor.WordR
open Go.RowKit Go.Shelf Mem WordP WordW WordS WordC Range
attribute [local go_sem] Oper.semAt_some

theorem grown_of_below {w w' : World} (h : Below w.heap.size w w') (row : Option Nat) : w.grownBy w' row := ⟨h.os, h.tape, h.output, h.size, fun k hk _ => h.block k hk⟩
theorem box_same {W W' : World} {B : Nat} {t : TypeId} {v : Value} (h : Boxed W B t v) (e : W'.heap[B]? = W.heap[B]?) : Boxed W' B t v := e.trans h
def boxLen (b : Nat) (W : World) : Nat := match W.cell? ⟨b, 0, none⟩ with | some (.string s) => s.size | _ => 0
theorem boxLen_of {b : Nat} {W : World} {t : TypeId} {s : ByteArray} (h : Boxed W b t (.string s)) : boxLen b W = s.size := by unfold boxLen; rw [h.cell]

set_option maxHeartbeats 2000000 in
theorem iter_hands (b c : Nat) (hbc : b ≠ c) (s : ByteArray) (u : UInt8) (w : World) (hs : s.size ≤ 4611686018427387904) (n : Nat) (hn : 1 ≤ n) (hb : Boxed w b 9 (.string s)) (hc : Boxed w c 5 (.int .u8 u.toNat)) :
    Hands Fence.wide n Tryd.prog 44 #[.pointer (some ⟨b, 0, none⟩), .pointer (some ⟨c, 0, none⟩)] (fun x : ByteArray => #[Value.string x]) b (fun k => k = b ∨ k = c) (fun xs => xs = (split u s.data.toList).map str) (s.size + 1) w := by
  intro l J W hW hz hJ hY h0
  have hbW : Boxed W b 9 (.string s) := box_same hb (hW b (.inl rfl))
  have hcW : Boxed W c 5 (.int .u8 u.toNat) := box_same hc (hW c (.inr rfl))
  refine callsIn_of_wp Tryd.func44 rfl trivial ?_ rfl
  simp only [Tryd.ntmps44, List.size_toArray, List.length_cons, List.length_nil, Nat.reduceAdd, Nat.reduceSub, Array.replicate_succ, Array.replicate_zero, List.push_toArray, List.append_toArray, List.nil_append, List.cons_append]
  gi_wp2
  gi_loopw [4] (fun _ wr => ∃ (pre : List ByteArray) (cur : ByteArray), Boxed wr b 9 (.string cur) ∧ Boxed wr c 5 (.int .u8 u.toNat) ∧ pre.length + cur.size ≤ s.size ∧ (split u s.data.toList).map str = pre ++ (split u cur.data.toList).map str ∧ J pre wr) (fun _ wr => boxLen b wr)
  case atStart => exact ⟨[], s, hbW, hcW, by simp, rfl, h0⟩
  case round =>
    clear hbW hcW hb hc hW hz h0
    obtain ⟨pre, cur, hb, hc, hlen, hsp, hj⟩ := hrel
    have cb := hb.cell
    have cc := hc.cell
    have CUT := fun w' => cut_any cur u w' (by omega)
    have hSP := Lib.hid hsp
    clear hsp
    rcases first_at u cur.data.toList with h | ⟨a, r, hl, h⟩
    · rw [cut_none h] at CUT
      have hst : str cur.data.toList = cur := mkB cur
      have hfin : (split u s.data.toList).map str = pre ++ [str cur.data.toList] := by rw [hSP.out, split_none u _ h]; rfl
      have HF := Lib.hid hfin
      have CUT := Lib.hid CUT
      clear h hfin hst
      gi_wp2
      refine ⟨trivial, ?_⟩
      refine (callsIn_wide.2 (CUT.out _)).mono ?_
      rintro e w2 ⟨rfl, hb2⟩
      have g2 := grown_of_below hb2 none
      have hb' := hb.kept g2 (by simp)
      have hc' := hc.kept g2 (by simp)
      have hj' := hJ _ _ _ none hj g2 (.inl rfl)
      obtain ⟨fn, tmps, assign, body, hy, hR⟩ := hY pre (str cur.data.toList) w2 hj' (by omega)
      clear hb2 g2 cb cc hb hc hj
      gi_wp2
      refine hR.mono ?_
      rintro e W3 ⟨rfl, hj3, hk3, hz3⟩
      gi_wp2
      refine bodyPost_ret (results_none rfl _ _ _) rfl ?_
      exact ⟨⟨_, rfl⟩, pre ++ [str cur.data.toList], HF.out.symm, hj3⟩
    · have hcut : cut u cur.data.toList = (a, r, true) := by rw [hl]; exact cut_at h
      have hz : a.length + 1 + r.length = cur.size := by
        have : cur.data.toList.length = cur.size := by simp
        rw [hl] at this; simp at this; omega
      rw [hcut] at CUT
      have hnext : (split u s.data.toList).map str = (pre ++ [str a]) ++ (split u (str r).data.toList).map str := by
        rw [hSP.out, hl, split_app u a r h]; simp [str]
      have HF := Lib.hid hnext
      have CUT := Lib.hid CUT
      clear h hnext hl hcut
      gi_wp2
      refine ⟨trivial, ?_⟩
      refine (callsIn_wide.2 (CUT.out _)).mono ?_
      rintro e w2 ⟨rfl, hb2⟩
      have g2 := grown_of_below hb2 none
      have hb' := hb.kept g2 (by simp)
      have hc' := hc.kept g2 (by simp)
      have hj' := hJ _ _ _ none hj g2 (.inl rfl)
      obtain ⟨fn, tmps, assign, body, hy, hR⟩ := hY pre (str a) w2 hj' (by omega)
      have hbl := boxLen_of hb
      clear hb2 g2 cb cc hb hc hj
      gi_wp2
      refine hR.mono ?_
      rintro e W3 ⟨rfl, hj3, hk3, hz3⟩
      have hb3 := box_same hb' (hk3 b (.inl rfl))
      have hc3 := box_same hc' (hk3 c (.inr rfl))
      have cb := hb3.cell
      have fb := hb3.frozen
      gi_wp2
      go_roundw
      case rel => exact ⟨pre ++ [str a], str r, hb3.set _, hc3.other (Ne.symm hbc) _, by rw [str_size]; simp; omega, HF.out, hJ _ _ _ (some b) hj3 (grownBy_setCell' _ _ _) (.inr rfl)⟩
      case measure => rw [boxLen_of (hb3.set _), hbl, str_size]; omega

set_option maxHeartbeats 1000000 in
theorem made_any (s : ByteArray) (u : UInt8) (w : World) :
    Calls Tryd.prog 35 #[.string s, .int .u8 u.toNat] w (fun e w' => e = .returned (.func (.func 44) #[] #[.pointer (some ⟨w.heap.size, 0, none⟩), .pointer (some ⟨w.heap.size + 1, 0, none⟩)]) ∧ w' = (w.alloc (.cells #[.string s] 9)).alloc (.cells #[.int .u8 u.toNat] 5)) := by
  go_enter Tryd.func35, Tryd.ntmps35
  go_wp2_with fail
  go_ret
  exact ⟨by simp, rfl⟩
theorem own_lower {w : World} {a b : Nat} {e : TypeId} {size n : Nat} {v : Value} {xs : List Value} (h : w.ownsRow b e size v n xs) (hab : a ≤ b) : w.ownsRow a e size v n xs := by
  refine ⟨h.1, ?_⟩
  rcases h.2 with h | ⟨g, cap, cur, e1, e2, e3⟩
  · exact .inl h
  · exact .inr ⟨g, cap, cur, e1, by omega, e3⟩
theorem own_far {w : World} {b k : Nat} {e : TypeId} {size n : Nat} {v : Value} {xs : List Value} (h : w.ownsRow b e size v n xs) (hk : k < b) : v.ownBlock ≠ some k := by
  rcases h.2 with ⟨rfl, _⟩ | ⟨g, cap, cur, rfl, e2, e3⟩
  · simp [Value.ownBlock]
  · simp [Value.ownBlock]; omega
theorem info_str : (Tryd.prog.info? 9).map (fun i => (i.zero, i.size, i.bytes)) = some (some (.string ⟨#[]⟩), 1, 16) := by kernel_rfl
set_option maxRecDepth 100000 in
set_option maxHeartbeats 2000000 in
theorem parts_any (s : ByteArray) (u : UInt8) (w : World) (hs : s.size ≤ 4398046511104) :
    Calls Tryd.prog 16 #[.string s, .int .u8 u.toNat] w (GivesRow w.heap.size 9 (split u s.data.toList).length (((split u s.data.toList).map str).map Value.string) w) := by
  refine (callsIn_wide (n := 3)).1 ?_
  obtain ⟨i0, hi, hz0, hz1, hz2⟩ := info_parts info_str
  refine callsIn_of_wp_marks Tryd.func16 rfl trivial ?_ rfl
  simp only [Tryd.ntmps16, List.size_toArray, List.length_cons, List.length_nil, Nat.reduceAdd, Nat.reduceSub, Array.replicate_succ, Array.replicate_zero, List.push_toArray, List.append_toArray, List.nil_append, List.cons_append]
  gi_wp2
  refine ⟨trivial, ?_⟩
  refine (callsIn_wide.2 (made_any s u _)).mono ?_
  rintro e w' ⟨rfl, rfl⟩
  have bO := Boxed.new w 39 (.slice none 0 0)
  have bS := Boxed.new (w.alloc (.cells #[.slice none 0 0] 39)) 9 (.string s)
  have bU := Boxed.new ((w.alloc (.cells #[.slice none 0 0] 39)).alloc (.cells #[.string s] 9)) 5 (.int .u8 u.toNat)
  have bO := (bO.alloc (.cells #[.string s] 9)).alloc (.cells #[.int .u8 u.toNat] 5)
  have bS := bS.alloc (.cells #[.int .u8 u.toNat] 5)
  rw [World.size_alloc] at bS bU
  rw [World.size_alloc] at bU
  have hB0 : Below w.heap.size w (((w.alloc (.cells #[.slice none 0 0] 39)).alloc (.cells #[.string s] 9)).alloc (.cells #[.int .u8 u.toNat] 5)) := (((Below.refl _ w).alloc (Nat.le_refl _) _).alloc (by simp) _).alloc (by simp; omega) _
  have hz : (((w.alloc (.cells #[.slice none 0 0] 39)).alloc (.cells #[.string s] 9)).alloc (.cells #[.int .u8 u.toNat] 5)).heap.size = w.heap.size + 3 := by simp
  generalize (((w.alloc (.cells #[.slice none 0 0] 39)).alloc (.cells #[.string s] 9)).alloc (.cells #[.int .u8 u.toNat] 5)) = W0 at bO bS bU hB0 hz ⊢
  gi_wp2
  refine range_hands rfl (by omega) (gf := 44) (lb := #[.pointer (some ⟨w.heap.size + 1, 0, none⟩), .pointer (some ⟨w.heap.size + 1 + 1, 0, none⟩)]) rfl trivial (enters_of Tryd.func44 (by kernel_rfl) rfl)
    (K := fun k => k = w.heap.size + 1 ∨ k = w.heap.size + 1 + 1) (.inl rfl) (fun k hk => by rcases hk with h | h <;> omega)
    (iter_hands (w.heap.size + 1) (w.heap.size + 1 + 1) (by omega) s u W0 (by omega) _ (by omega) bS bU) (fun _ => rfl)
    (fun pre W => (∃ v, Boxed W w.heap.size 39 v ∧ W.ownsRow (w.heap.size + 3) 9 1 v pre.length (pre.map Value.string)) ∧ Below w.heap.size w W) ?hI ?h0
    (fun x => { tmps := #[.string s, .int .u8 u.toNat, undef, undef, .slice none 0 0, .pointer (some ⟨w.heap.size, 0, none⟩), .string x, .string s, .int .u8 u.toNat, .func (.func 44) #[] #[.pointer (some ⟨w.heap.size + 1, 0, none⟩), .pointer (some ⟨w.heap.size + 1 + 1, 0, none⟩)], .string x, undef, undef, undef, undef, undef], defers := [] }) ?assign ?body ?done
  case hI =>
    rintro xs W W' row ⟨⟨v, hv, hr⟩, hB⟩ hg hrow
    refine ⟨⟨v, hv.kept hg (fun e => ?_), hr.kept hg ?_⟩, hB.grown hg hB.size (fun j e => ?_)⟩
    · rcases hrow _ e.symm with h | ⟨h, _⟩ <;> omega
    · cases row with
      | none =>
        by_cases h : v.ownBlock = none
        · exact .inl h
        · exact .inr h
      | some r =>
        refine .inr (fun e => ?_)
        rcases hrow r rfl with h | ⟨h, o, ho, hc⟩
        · exact own_far hr (by omega) e
        · rcases hr.2 with ⟨rfl, _⟩ | ⟨g, cap, cur, rfl, e2, e3, _⟩
          · simp [Value.ownBlock] at e
          · obtain rfl : g = r := by simpa [Value.ownBlock] using e
            rw [e3] at ho; cases ho; cases hc
    · rcases hrow j e with h | ⟨h, _⟩ <;> omega
  case h0 => exact ⟨⟨_, bO, World.ownsRow_nil _ _ _ _⟩, hB0⟩
  case assign =>
    intro l x W K hK
    gi_wp2
    exact hK
  case body =>
    rintro l pre x W ⟨⟨v, hv, hrow⟩, hB⟩ hlt hsz
    have hc := hv.cell
    have hw := hB.size
    have hml : pre.length + 1 ≤ maxLen := by unfold maxLen; omega
    have hbd : (pre.length + 1) * 16 ≤ 140737488355328 := by omega
    gi_wp2_with (gi_at_builtin; refine wpListIn_append_own _ rfl _ _ 39 rfl (w.heap.size + 3) 9 i0 (.string ⟨#[]⟩) 1 16 Tryd.underlying39 hi hz0 hz1 hz2 rfl (by decide) _ _ _ rfl (hrow.alloc _) ⟨W.heap.size, 0, none⟩ 1 1 [.string x] rfl rfl (cell_one_new _ _ _) (by simp [Value.oneCell']) hml hbd (by simp; omega) ?_; intro v' w1 hown' hgrow _; obtain ⟨g', cap', rfl⟩ := ownsRow_succ hown'; obtain ⟨hv1, hv2, hr2, hk2, hb2⟩ := hv.appended (by decide) (own_lower (a := w.heap.size) hrow (by omega)) hB.size (Nat.le_refl _) (own_lower hown' (by omega)) hgrow; have hc1 := hv1.cell; have hf1 := hv1.frozen)
    refine ⟨hk2, fun k hk => ?_, ⟨_, hv2, by simpa using hown'.kept (grownBy_setCell' w1 _ _) (.inr (hv1.not_row (by decide) hown').symm)⟩, hB.trans hb2⟩
    have hkB : k ≠ w.heap.size := by rcases hk with h | h <;> omega
    have hk3 : k < w.heap.size + 3 := by rcases hk with h | h <;> omega
    exact (Below.heap_setCell _ _ _ k hkB).trans ((hgrow.block k (by simp; omega) (Ne.symm (own_far hrow hk3))).trans (Below.heap_alloc _ _ _ (by omega)))
  case done =>
    rintro D ys W hD hys ⟨⟨v, hv, hrow⟩, hB⟩ hK
    have hc := hv.cell
    gi_wp2
    refine ⟨by simp, .inl ⟨_, _, rfl, run_takeDeferred hK, ?_⟩⟩
    refine ⟨_, results_tmp rfl _ _ _, v, rfl, ?_, hB.trans (belowK_b (w := w) (Nat.le_refl _) W D _ _ (by omega) hK rfl rfl)⟩
    have hr := ownsRow_putObj (own_lower (a := w.heap.size) hrow (by omega)) (.deferred none) hK rfl
    rw [hys] at hr
    simpa using hr
end Go.Proofs.YtbacakgjhohedaaDoor.WordR
