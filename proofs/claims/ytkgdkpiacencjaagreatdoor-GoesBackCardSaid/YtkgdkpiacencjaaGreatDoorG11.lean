/- Texts of the proof, joined: WordR, WordJ, WordQ, TreeW, PathT, ClockP, FnB, HostA, Lead. -/
import Derived.RangeFuncNested
import Derived.RangeFuncBound
import Derived.RangeFuncCalls
import Derived.RangeFuncLeaves
import Derived.RangeFuncBox
import Derived.Shelf.Abstract
import Derived.Shelf.RegionOpen
import Derived.WalkKit
import Derived.OwnWalkIn
import Derived.TacticsInMore
import Derived.LoopNIn
import Derived.LoopIn
import Derived.Maps.AppendAt
import Derived.Test.YtkgdkpiacencjaaGreatDoorG10
import Derived.Lib.Join
import Derived.Test.YtkgdkpiacencjaaGreatDoorG8
import Derived.Test.YtkgdkpiacencjaaGreatDoorG6
import Derived.Test.YtkgdkpiacencjaaGreatDoorG9
section
namespace Go.Proofs.YtkgdkpiacencjaaGreatDoor.WordR
open Go.RowKit Go.Shelf Mem WordP WordW WordS WordC Range
attribute [local go_sem] Oper.semAt_some

theorem grown_of_below {w w' : World} (h : Below w.heap.size w w') (row : Option Nat) : w.grownBy w' row := ⟨h.os, h.tape, h.output, h.size, fun k hk _ => h.block k hk⟩
theorem box_same {W W' : World} {B : Nat} {t : TypeId} {v : Value} (h : Boxed W B t v) (e : W'.heap[B]? = W.heap[B]?) : Boxed W' B t v := e.trans h
def boxLen (b : Nat) (W : World) : Nat := match W.cell? ⟨b, 0, none⟩ with | some (.string s) => s.size | _ => 0
theorem boxLen_of {b : Nat} {W : World} {t : TypeId} {s : ByteArray} (h : Boxed W b t (.string s)) : boxLen b W = s.size := by unfold boxLen; rw [h.cell]

set_option maxHeartbeats 2000000 in
theorem iter_hands (b c : Nat) (hbc : b ≠ c) (s : ByteArray) (u : UInt8) (w : World) (hs : s.size ≤ 4611686018427387904) (n : Nat) (hn : 1 ≤ n) (hb : Boxed w b 9 (.string s)) (hc : Boxed w c 5 (.int .u8 u.toNat)) :
    Hands Fence.wide n Tryz.prog 143 #[.pointer (some ⟨b, 0, none⟩), .pointer (some ⟨c, 0, none⟩)] (fun x : ByteArray => #[Value.string x]) b (fun k => k = b ∨ k = c) (fun xs => xs = (split u s.data.toList).map str) (s.size + 1) w := by
  intro l J W hW hz hJ hY h0
  have hbW : Boxed W b 9 (.string s) := box_same hb (hW b (.inl rfl))
  have hcW : Boxed W c 5 (.int .u8 u.toNat) := box_same hc (hW c (.inr rfl))
  refine callsIn_of_wp Tryz.func143 rfl trivial ?_ rfl
  simp only [Tryz.ntmps143, List.size_toArray, List.length_cons, List.length_nil, Nat.reduceAdd, Nat.reduceSub, Array.replicate_succ, Array.replicate_zero, List.push_toArray, List.append_toArray, List.nil_append, List.cons_append]
  gi_wp2
  gi_loopw [4] (fun _ wr => ∃ (pre : List ByteArray) (cur : ByteArray), Boxed wr b 9 (.string cur) ∧ Boxed wr c 5 (.int .u8 u.toNat) ∧ pre.length + cur.size ≤ s.size ∧ (split u s.data.toList).map str = pre ++ (split u cur.data.toList).map str ∧ J pre wr) (fun _ wr => boxLen b wr)
  case atStart => exact ⟨[], s, hbW, hcW, by simp, rfl, h0⟩
  case round =>
    clear hbW hcW hb hc hW hz h0
    obtain ⟨pre, cur, hb, hc, hlen, hsp, hj⟩ := hrel
    have cb := hb.cell
    have cc := hc.cell
    have CUT := fun w' => cut_any cur u w' (by omega)
    have hSP := Lib.hid hsp
    clear hsp
    rcases first_at u cur.data.toList with h | ⟨a, r, hl, h⟩
    · rw [cut_none h] at CUT
      have hst : str cur.data.toList = cur := mkB cur
      have hfin : (split u s.data.toList).map str = pre ++ [str cur.data.toList] := by rw [hSP.out, split_none u _ h]; rfl
      have HF := Lib.hid hfin
      have CUT := Lib.hid CUT
      clear h hfin hst
      gi_wp2
      refine ⟨trivial, ?_⟩
      refine (callsIn_wide.2 (CUT.out _)).mono ?_
      rintro e w2 ⟨rfl, hb2⟩
      have g2 := grown_of_below hb2 none
      have hb' := hb.kept g2 (by simp)
      have hc' := hc.kept g2 (by simp)
      have hj' := hJ _ _ _ none hj g2 (.inl rfl)
      obtain ⟨fn, tmps, assign, body, hy, hR⟩ := hY pre (str cur.data.toList) w2 hj' (by omega)
      clear hb2 g2 cb cc hb hc hj
      gi_wp2
      refine hR.mono ?_
      rintro e W3 ⟨rfl, hj3, hk3, hz3⟩
      gi_wp2
      refine bodyPost_ret (results_none rfl _ _ _) rfl ?_
      exact ⟨⟨_, rfl⟩, pre ++ [str cur.data.toList], HF.out.symm, hj3⟩
    · have hcut : cut u cur.data.toList = (a, r, true) := by rw [hl]; exact cut_at h
      have hz : a.length + 1 + r.length = cur.size := by
        have : cur.data.toList.length = cur.size := by simp
        rw [hl] at this; simp at this; omega
      rw [hcut] at CUT
      have hnext : (split u s.data.toList).map str = (pre ++ [str a]) ++ (split u (str r).data.toList).map str := by
        rw [hSP.out, hl, split_app u a r h]; simp [str]
      have HF := Lib.hid hnext
      have CUT := Lib.hid CUT
      clear h hnext hl hcut
      gi_wp2
      refine ⟨trivial, ?_⟩
      refine (callsIn_wide.2 (CUT.out _)).mono ?_
      rintro e w2 ⟨rfl, hb2⟩
      have g2 := grown_of_below hb2 none
      have hb' := hb.kept g2 (by simp)
      have hc' := hc.kept g2 (by simp)
      have hj' := hJ _ _ _ none hj g2 (.inl rfl)
      obtain ⟨fn, tmps, assign, body, hy, hR⟩ := hY pre (str a) w2 hj' (by omega)
      have hbl := boxLen_of hb
      clear hb2 g2 cb cc hb hc hj
      gi_wp2
      refine hR.mono ?_
      rintro e W3 ⟨rfl, hj3, hk3, hz3⟩
      have hb3 := box_same hb' (hk3 b (.inl rfl))
      have hc3 := box_same hc' (hk3 c (.inr rfl))
      have cb := hb3.cell
      have fb := hb3.frozen
      gi_wp2
      go_roundw
      case rel => exact ⟨pre ++ [str a], str r, hb3.set _, hc3.other (Ne.symm hbc) _, by rw [str_size]; simp; omega, HF.out, hJ _ _ _ (some b) hj3 (grownBy_setCell' _ _ _) (.inr rfl)⟩
      case measure => rw [boxLen_of (hb3.set _), hbl, str_size]; omega

set_option maxHeartbeats 1000000 in
theorem made_any (s : ByteArray) (u : UInt8) (w : World) :
    Calls Tryz.prog 117 #[.string s, .int .u8 u.toNat] w (fun e w' => e = .returned (.func (.func 143) #[] #[.pointer (some ⟨w.heap.size, 0, none⟩), .pointer (some ⟨w.heap.size + 1, 0, none⟩)]) ∧ w' = (w.alloc (.cells #[.string s] 9)).alloc (.cells #[.int .u8 u.toNat] 5)) := by
  go_enter Tryz.func117, Tryz.ntmps117
  go_wp2_with fail
  go_ret
  exact ⟨by simp, rfl⟩
theorem own_lower {w : World} {a b : Nat} {e : TypeId} {size n : Nat} {v : Value} {xs : List Value} (h : w.ownsRow b e size v n xs) (hab : a ≤ b) : w.ownsRow a e size v n xs := by
  refine ⟨h.1, ?_⟩
  rcases h.2 with h | ⟨g, cap, cur, e1, e2, e3⟩
  · exact .inl h
  · exact .inr ⟨g, cap, cur, e1, by omega, e3⟩
theorem own_far {w : World} {b k : Nat} {e : TypeId} {size n : Nat} {v : Value} {xs : List Value} (h : w.ownsRow b e size v n xs) (hk : k < b) : v.ownBlock ≠ some k := by
  rcases h.2 with ⟨rfl, _⟩ | ⟨g, cap, cur, rfl, e2, e3⟩
  · simp [Value.ownBlock]
  · simp [Value.ownBlock]; omega
theorem info_str : (Tryz.prog.info? 9).map (fun i => (i.zero, i.size, i.bytes)) = some (some (.string ⟨#[]⟩), 1, 16) := by kernel_rfl
set_option maxRecDepth 100000 in
set_option maxHeartbeats 2000000 in
theorem parts_any (s : ByteArray) (u : UInt8) (w : World) (hs : s.size ≤ 4398046511104) :
    Calls Tryz.prog 91 #[.string s, .int .u8 u.toNat] w (GivesRow w.heap.size 9 (split u s.data.toList).length (((split u s.data.toList).map str).map Value.string) w) := by
  refine (callsIn_wide (n := 3)).1 ?_
  obtain ⟨i0, hi, hz0, hz1, hz2⟩ := info_parts info_str
  refine callsIn_of_wp_marks Tryz.func91 rfl trivial ?_ rfl
  simp only [Tryz.ntmps91, List.size_toArray, List.length_cons, List.length_nil, Nat.reduceAdd, Nat.reduceSub, Array.replicate_succ, Array.replicate_zero, List.push_toArray, List.append_toArray, List.nil_append, List.cons_append]
  gi_wp2
  refine ⟨trivial, ?_⟩
  refine (callsIn_wide.2 (made_any s u _)).mono ?_
  rintro e w' ⟨rfl, rfl⟩
  have bO := Boxed.new w 63 (.slice none 0 0)
  have bS := Boxed.new (w.alloc (.cells #[.slice none 0 0] 63)) 9 (.string s)
  have bU := Boxed.new ((w.alloc (.cells #[.slice none 0 0] 63)).alloc (.cells #[.string s] 9)) 5 (.int .u8 u.toNat)
  have bO := (bO.alloc (.cells #[.string s] 9)).alloc (.cells #[.int .u8 u.toNat] 5)
  have bS := bS.alloc (.cells #[.int .u8 u.toNat] 5)
  rw [World.size_alloc] at bS bU
  rw [World.size_alloc] at bU
  have hB0 : Below w.heap.size w (((w.alloc (.cells #[.slice none 0 0] 63)).alloc (.cells #[.string s] 9)).alloc (.cells #[.int .u8 u.toNat] 5)) := (((Below.refl _ w).alloc (Nat.le_refl _) _).alloc (by simp) _).alloc (by simp; omega) _
  have hz : (((w.alloc (.cells #[.slice none 0 0] 63)).alloc (.cells #[.string s] 9)).alloc (.cells #[.int .u8 u.toNat] 5)).heap.size = w.heap.size + 3 := by simp
  generalize (((w.alloc (.cells #[.slice none 0 0] 63)).alloc (.cells #[.string s] 9)).alloc (.cells #[.int .u8 u.toNat] 5)) = W0 at bO bS bU hB0 hz ⊢
  gi_wp2
  refine range_hands rfl (by omega) (gf := 143) (lb := #[.pointer (some ⟨w.heap.size + 1, 0, none⟩), .pointer (some ⟨w.heap.size + 1 + 1, 0, none⟩)]) rfl trivial (enters_of Tryz.func143 (by kernel_rfl) rfl)
    (K := fun k => k = w.heap.size + 1 ∨ k = w.heap.size + 1 + 1) (.inl rfl) (fun k hk => by rcases hk with h | h <;> omega)
    (iter_hands (w.heap.size + 1) (w.heap.size + 1 + 1) (by omega) s u W0 (by omega) _ (by omega) bS bU) (fun _ => rfl)
    (fun pre W => (∃ v, Boxed W w.heap.size 63 v ∧ W.ownsRow (w.heap.size + 3) 9 1 v pre.length (pre.map Value.string)) ∧ Below w.heap.size w W) ?hI ?h0
    (fun x => { tmps := #[.string s, .int .u8 u.toNat, undef, undef, .slice none 0 0, .pointer (some ⟨w.heap.size, 0, none⟩), .string x, .string s, .int .u8 u.toNat, .func (.func 143) #[] #[.pointer (some ⟨w.heap.size + 1, 0, none⟩), .pointer (some ⟨w.heap.size + 1 + 1, 0, none⟩)], .string x, undef, undef, undef, undef, undef], defers := [] }) ?assign ?body ?done
  case hI =>
    rintro xs W W' row ⟨⟨v, hv, hr⟩, hB⟩ hg hrow
    refine ⟨⟨v, hv.kept hg (fun e => ?_), hr.kept hg ?_⟩, hB.grown hg hB.size (fun j e => ?_)⟩
    · rcases hrow _ e.symm with h | ⟨h, _⟩ <;> omega
    · cases row with
      | none =>
        by_cases h : v.ownBlock = none
        · exact .inl h
        · exact .inr h
      | some r =>
        refine .inr (fun e => ?_)
        rcases hrow r rfl with h | ⟨h, o, ho, hc⟩
        · exact own_far hr (by omega) e
        · rcases hr.2 with ⟨rfl, _⟩ | ⟨g, cap, cur, rfl, e2, e3, _⟩
          · simp [Value.ownBlock] at e
          · obtain rfl : g = r := by simpa [Value.ownBlock] using e
            rw [e3] at ho; cases ho; cases hc
    · rcases hrow j e with h | ⟨h, _⟩ <;> omega
  case h0 => exact ⟨⟨_, bO, World.ownsRow_nil _ _ _ _⟩, hB0⟩
  case assign =>
    intro l x W K hK
    gi_wp2
    exact hK
  case body =>
    rintro l pre x W ⟨⟨v, hv, hrow⟩, hB⟩ hlt hsz
    have hc := hv.cell
    have hw := hB.size
    have hml : pre.length + 1 ≤ maxLen := by unfold maxLen; omega
    have hbd : (pre.length + 1) * 16 ≤ 140737488355328 := by omega
    gi_wp2_with (gi_at_builtin; refine wpListIn_append_own _ rfl _ _ 63 rfl (w.heap.size + 3) 9 i0 (.string ⟨#[]⟩) 1 16 Tryz.underlying63 hi hz0 hz1 hz2 rfl (by decide) _ _ _ rfl (hrow.alloc _) ⟨W.heap.size, 0, none⟩ 1 1 [.string x] rfl rfl (cell_one_new _ _ _) (by simp [Value.oneCell']) hml hbd (by simp; omega) ?_; intro v' w1 hown' hgrow _; obtain ⟨g', cap', rfl⟩ := ownsRow_succ hown'; obtain ⟨hv1, hv2, hr2, hk2, hb2⟩ := hv.appended (by decide) (own_lower (a := w.heap.size) hrow (by omega)) hB.size (Nat.le_refl _) (own_lower hown' (by omega)) hgrow; have hc1 := hv1.cell; have hf1 := hv1.frozen)
    refine ⟨hk2, fun k hk => ?_, ⟨_, hv2, by simpa using hown'.kept (grownBy_setCell' w1 _ _) (.inr (hv1.not_row (by decide) hown').symm)⟩, hB.trans hb2⟩
    have hkB : k ≠ w.heap.size := by rcases hk with h | h <;> omega
    have hk3 : k < w.heap.size + 3 := by rcases hk with h | h <;> omega
    exact (Below.heap_setCell _ _ _ k hkB).trans ((hgrow.block k (by simp; omega) (Ne.symm (own_far hrow hk3))).trans (Below.heap_alloc _ _ _ (by omega)))
  case done =>
    rintro D ys W hD hys ⟨⟨v, hv, hrow⟩, hB⟩ hK
    have hc := hv.cell
    gi_wp2
    refine ⟨by simp, .inl ⟨_, _, rfl, run_takeDeferred hK, ?_⟩⟩
    refine ⟨_, results_tmp rfl _ _ _, v, rfl, ?_, hB.trans (belowK_b (w := w) (Nat.le_refl _) W D _ _ (by omega) hK rfl rfl)⟩
    have hr := ownsRow_putObj (own_lower (a := w.heap.size) hrow (by omega)) (.deferred none) hK rfl
    rw [hys] at hr
    simpa using hr
end Go.Proofs.YtkgdkpiacencjaaGreatDoor.WordR
end

section
namespace Go.Proofs.YtkgdkpiacencjaaGreatDoor.WordJ
open Go.RowKit Mem WordP OneB WordW WordS WordC

def strs (L : List ByteArray) : List Value := L.map Value.string
theorem str_cat (a b : List UInt8) : str a ++ str b = str (a ++ b) := by
  apply ByteArray.ext; simp [str, ByteArray.data_append]
end Go.Proofs.YtkgdkpiacencjaaGreatDoor.WordJ
end

section
namespace Go.Proofs.YtkgdkpiacencjaaGreatDoor.WordQ
open Go.RowKit Mem WordP OneB WordW WordS WordJ
open WordC (ext_drop ext_take)

theorem elemStr : Elem Tryz.prog 63 9 1 16 := Elem.mk (z := .string ⟨#[]⟩) Tryz.underlying63 (by kernel_rfl) rfl (by decide)
theorem own_lower {w : World} {a b : Nat} {e : TypeId} {size n : Nat} {v : Value} {xs : List Value} (h : w.ownsRow b e size v n xs) (hab : a ≤ b) : w.ownsRow a e size v n xs := WordR.own_lower h hab
set_option maxRecDepth 100000 in
set_option maxHeartbeats 4000000 in
theorem partsOf_any (u : UInt8) : ∀ (n : Nat) (s : ByteArray), s.size < n → s.size ≤ 4398046511104 → ∀ w : World,
    Calls Tryz.prog 88 #[.string s, .int .u8 u.toNat] w (GivesRow w.heap.size 9 (split u s.data.toList).length (strs ((split u s.data.toList).map str)) w) := by
  intro n
  induction n with
  | zero => intro s hn; omega
  | succ n ih =>
    intro s hn hs w
    have IH := Lib.hid ih
    clear ih
    go_enter Tryz.func88, Tryz.ntmps88
    go_wp2_with fail
    go_loopw [5] (fun i wr => ∃ k : Nat, k ≤ s.size ∧ i = .int .i64 ((k : Int) - 1) ∧ (s.data.toList.drop k).contains u = false ∧ Below w.heap.size w wr) (fun i _ => (intOf i + 1).toNat)
    case atStart => exact ⟨s.size, Nat.le_refl _, rfl, by rw [List.drop_of_length_le (by simp)]; rfl, Below.refl _ _⟩
    case round =>
      obtain ⟨k, hk, rfl, hct, hb⟩ := hrel
      have HC := Lib.hid hct
      clear hct
      by_cases hlt : 0 < k
      · have hd := drop_consB s (k - 1) (by omega)
        rw [show k - 1 + 1 = k from by omega] at hd
        have hi1 : ((k : Int) - 1) = ((k - 1 : Nat) : Int) := by omega
        rw [hi1]
        have hw0 : (0 : Int) ≤ ((k - 1 : Nat) : Int) := by omega
        have hw1 : ((k - 1 : Nat) : Int) < (s.size : Int) := by omega
        have hw2 : ((k - 1 : Nat) : Int) ≤ (s.size : Int) := by omega
        have hw3 : ((k - 1 : Nat) : Int) + 1 ≤ (s.size : Int) := by omega
        have hwr : IntKind.i64.wrap (((k - 1 : Nat) : Int) + 1) = (k : Int) := by rw [IntWalk.i64_in _ (by omega)]; omega
        have hw4 : (k : Int) ≤ (s.size : Int) := by omega
        have hw5 : (0 : Int) ≤ (k : Int) := by omega
        have HD := Lib.hid hd
        clear hd
        by_cases heq : s[k - 1] = u
        · have e1 : ((s[k - 1].toNat : Int) == (u.toNat : Int)) = true := by rw [heq]; simp
          have hsp : split u s.data.toList = split u (s.data.toList.take (k - 1)) ++ [s.data.toList.drop k] := by
            have e := split_mid u (s.data.toList.take (k - 1)) (s.data.toList.drop k)
            rw [split_none u _ HC.out, ← heq, ← HD.out, List.take_append_drop] at e
            rw [← heq]; exact e
          have ht1 : s.extract 0 (k - 1) = str (s.data.toList.take (k - 1)) := ext_take s (k - 1)
          have ht2 : s.extract k s.size = str (s.data.toList.drop k) := ext_drop s k
          have hl1 : (split u (s.data.toList.take (k - 1))).length ≤ k := by
            have := split_len u (s.data.toList.take (k - 1))
            simp at this; omega
          have HI := fun w' => IH.out (str (s.data.toList.take (k - 1))) (by rw [str_size]; simp; omega) (by rw [str_size]; simp; omega) w'
          have hdt : (str (s.data.toList.take (k - 1))).data.toList = s.data.toList.take (k - 1) := by simp [str]
          rw [hdt] at HI
          have HSP := Lib.hid hsp; have HT2 := Lib.hid ht2
          have HI := Lib.hid HI
          clear hsp ht2 hdt
          generalize split u (s.data.toList.take (k - 1)) = L1 at HI HSP hl1
          go_wp2_with fail
          refine Seq.region_part (S := fun w' => Below w.heap.size w w') [(0, false), (1, false), (2, false), (3, false), (5, false), (6, false), (7, false), (8, false)] #[true, true, true, true, false, true, true, true, true, false, false, false] 4
            (by kernel_rfl) (by kernel_rfl) (fun _ _ d _ _ h => by cases d <;> exact h) hb.drew ?_
          simp only [Seq.lay, List.getElem?_cons_zero, List.getElem?_cons_succ]
          repeat (first
            | (refine Seq.seq_read (v := ?_) (by rfl) ?_ ?_
               rotate_left
               · (intro w' hS; go_simp; with_reducible rfl)
               simp only [Act.put, List.setIfInBounds_toArray, List.set_cons_zero, List.set_cons_succ]))
          refine Seq.seq_nil ?_
          refine Seq.either 4 9 _ _ (by kernel_rfl) rfl rfl (by rfl) (by rfl) (fun K hK => ?_) (fun K hK => ?_)
          · go_simp
            refine (HI.out _).mono ?_
            rintro e w1 ⟨v1, rfl, o1, hb1⟩
            have S1 := below_cat hb.drew hb1
            refine hK _ _ S1 ?_
            clear hK K
            refine Seq.on_seq [(9, true), (10, true), (11, false)] (by kernel_rfl) (fun _ _ d _ _ h => by cases d <;> exact h) S1 ?_
            simp only [Seq.lay, List.getElem?_cons_zero, List.getElem?_cons_succ]
            refine Seq.seq_do (by rfl) (fun K hK => ?_)
            go_simp
            have S2 := below_new S1 (.cells #[.string (s.extract k s.size)] 9)
            refine hK _ _ S2 ?_
            clear hK K
            have ow := own_lower (a := w.heap.size) o1 hb.size
            refine Seq.seq_do (by rfl) (fun K hK => ?_)
            refine wp_app elemStr (.tmp 22) (.tmp 27) rfl w.heap.size _ _ _ rfl (ow.alloc _) (some ⟨w1.heap.size, 0, none⟩) 1 1 [.string (s.extract k s.size)] (w1.heap.size + 1) rfl rfl (Row.lit w1 _ _ _ (by omega)) (by simp [Value.oneCell']) (fun e => by cases e) (by omega) (by omega) S2.size ?_
            intro v3 w3 o3 g3
            have S3 : Below w.heap.size w w3 := S2.grown g3 S2.size (fun j e => (ow.lt j e).1)
            refine hK _ _ S3 ?_
            clear hK K
            refine Seq.seq_read (v := ?_) (by rfl) ?_ ?_
            rotate_left
            · (intro w' hS; go_simp; with_reducible rfl)
            simp only [Act.put, List.setIfInBounds_toArray, List.set_cons_zero, List.set_cons_succ]
            refine Seq.seq_nil ?_
            go_wp2_with fail
            go_ret
            refine ⟨_, rfl, ?_, S3⟩
            rw [HSP.out]
            have e : strs ((L1 ++ [s.data.toList.drop k]).map str) = strs (L1.map str) ++ [.string (s.extract k s.size)] := by simp [strs, HT2.out]
            rw [e, List.length_append]
            exact o3
          · go_simp
            have S1 := (below_new hb (.cells #[.string (s.extract k s.size)] 9)).drew
            refine hK _ _ S1 ?_
            clear hK K
            refine Seq.on_seq [(4, true), (10, true), (11, false)] (by kernel_rfl) (fun _ _ d _ _ h => by cases d <;> exact h) S1 ?_
            simp only [Seq.lay, List.getElem?_cons_zero, List.getElem?_cons_succ]
            refine Seq.seq_do (by rfl) (fun K hK => ?_)
            go_simp
            refine (HI.out _).mono ?_
            rintro e w1 ⟨v1, rfl, o1, hb1⟩
            have S2 := below_cat S1 hb1
            refine hK _ _ S2 ?_
            clear hK K
            have ow := own_lower (a := w.heap.size) o1 S1.size
            have hrow := Row.lit wr 9 [.string (s.extract k s.size)] ((wr.alloc (.cells #[.string (s.extract k s.size)] 9)).drew.heap.size) (by simp)
            have hrow := Row.at' (w := (wr.alloc (.cells #[.string (s.extract k s.size)] 9)).drew) hrow hb1
            refine Seq.seq_do (by rfl) (fun K hK => ?_)
            refine wp_app elemStr (.tmp 22) (.tmp 27) rfl w.heap.size _ _ _ rfl ow (some ⟨wr.heap.size, 0, none⟩) 1 1 [.string (s.extract k s.size)] _ rfl rfl hrow (by simp [Value.oneCell']) (fun e => by cases e) (by omega) (by omega) S2.size ?_
            intro v3 w3 o3 g3
            have S3 : Below w.heap.size w w3 := S2.grown g3 S2.size (fun j e => (ow.lt j e).1)
            refine hK _ _ S3 ?_
            clear hK K
            refine Seq.seq_read (v := ?_) (by rfl) ?_ ?_
            rotate_left
            · (intro w' hS; go_simp; with_reducible rfl)
            simp only [Act.put, List.setIfInBounds_toArray, List.set_cons_zero, List.set_cons_succ]
            refine Seq.seq_nil ?_
            go_wp2_with fail
            go_ret
            refine ⟨_, rfl, ?_, S3⟩
            rw [HSP.out]
            have e : strs ((L1 ++ [s.data.toList.drop k]).map str) = strs (L1.map str) ++ [.string (s.extract k s.size)] := by simp [strs, HT2.out]
            rw [e, List.length_append]
            exact o3
        · have e1 : ((s[k - 1].toNat : Int) == (u.toNat : Int)) = false := by simp; intro h; exact heq (UInt8.toNat_inj.1 (by omega))
          have hc0 : (s.data.toList.drop (k - 1)).contains u = false := by
            rw [HD.out, List.contains_cons, HC.out]; simpa using fun e => heq e.symm
          have HC0 := Lib.hid hc0
          clear hc0
          go_wp2_with fail
          go_roundw
          case rel => exact ⟨k - 1, by omega, by go_num, HC0.out, hb⟩
          case measure => simp [intOf]
      · obtain rfl : k = 0 := by omega
        have hct := HC.out
        rw [List.drop_zero] at hct
        have hsp := split_none u _ hct
        have hst : str s.data.toList = s := mkB s
        have HS := Lib.hid hsp
        have HT := Lib.hid hst
        clear hct hsp hst
        go_wp2_with fail
        go_ret
        rw [HS.out]
        refine ⟨_, rfl, ?_, hb.alloc hb.size _⟩
        have ho := World.ownsRow_lit (base := w.heap.size) (e := 9) (size := 1) wr #[.string s] 1 hb.size (by decide) rfl
        have e : strs ([s.data.toList].map str) = [.string s] := by simp [strs, HT.out]
        rw [e]
        exact ho
end Go.Proofs.YtkgdkpiacencjaaGreatDoor.WordQ
end

section
namespace Go.Proofs.YtkgdkpiacencjaaGreatDoor.TreeW
open Go.RowKit Mem Abs WordP OneB WordS

theorem fz_strs {X : Nat → Prop} {w : World} {L : List (List UInt8)} {base T : Nat} {v : Value} (hX : ∀ b, X b → b < base) (hl : L.length ≤ LIM) (hs : ∀ l ∈ L, l.length ≤ SLIM) (h : w.ownsRow base T 1 v L.length (L.map fun l => Value.string (str l))) : Fz X w (strsT L) v :=
  owns_fz (f := strT) (g := fun l => Value.string (str l)) (fun _ => rfl) (fun _ => rfl) (fun l hl => .str (by rw [str_size]; exact hs l hl)) hX hl h
theorem str_lim {l : List UInt8} {r : List Abs.V} (h : V.LimL (strT l :: r)) : l.length ≤ 4611686018427387904 ∧ V.LimL r := by
  have := h.1
  rw [V.Lim, str_size] at this
  exact ⟨this, h.2⟩
section
variable {l m : List UInt8} {u c : UInt8} {L K : List (List UInt8)}
theorem one_str {f : FuncId} {r : Abs.V} {rv : ByteArray → Value} (h : ∀ (s : ByteArray) w, s.size ≤ 4611686018427387904 → Calls Tryz.prog f #[.string s] w (Gives (rv s) w)) (hr : ∀ N w, l.length ≤ SLIM → Fz N w r (rv (str l))) : ACalls Tryz.prog f [strT l] r := fun g N w vs hG hN hlen hv => by
  obtain ⟨vs⟩ := vs
  match vs, hlen with
  | [x0], _ =>
    obtain ⟨rfl, h0⟩ := fz_str (hv 0 _ x0 rfl rfl)
    exact (h _ w h0).mono fun e w' ⟨h1, h2⟩ => ⟨_, h1, h2, hr N w' (by rw [str_size] at h0; exact h0)⟩
theorem two_str {f : FuncId} {r : Abs.V} {rv : ByteArray → Value} (h : ∀ (s : ByteArray) w, s.size ≤ 4611686018427387904 → Calls Tryz.prog f #[.string s, .int .u8 c.toNat] w (Gives (rv s) w)) (hr : ∀ N w, l.length ≤ SLIM → Fz N w r (rv (str l))) : ACalls Tryz.prog f [strT l, byteT c] r := fun g N w vs hG hN hlen hv => by
  obtain ⟨vs⟩ := vs
  match vs, hlen with
  | [x0, x1], _ =>
    obtain ⟨rfl, h0⟩ := fz_str (hv 0 _ x0 rfl rfl)
    obtain ⟨rfl, _⟩ := fz_int (hv 1 _ x1 rfl rfl)
    exact (h _ w h0).mono fun e w' ⟨h1, h2⟩ => ⟨_, h1, h2, hr N w' (by rw [str_size] at h0; exact h0)⟩
theorem fold_len (l : List UInt8) : (fold l).length = l.length := by simp [fold]
theorem fold_v : ACalls Tryz.prog 66 [strT l] (strT (fold l)) := one_str (rv := fun s => .string (str (fold s.data.toList))) (fun s w hs => WordW.fold_any s w hs) fun N w h => by rw [str_toList]; exact .str (by rw [str_size, fold_len]; exact h)
theorem foldOf_v : ACalls Tryz.prog 18 [strT l] (strT (fold l)) := one_str (rv := fun s => .string (str (fold s.data.toList))) (fun s w hs => WordV.foldOf_any s w hs) fun N w h => by rw [str_toList]; exact .str (by rw [str_size, fold_len]; exact h)
theorem trim_len (l : List UInt8) : (trim l).length ≤ l.length := by
  unfold trim rdrop
  rw [List.length_reverse]
  have h1 : ((l.dropWhile blankB).reverse.dropWhile blankB).length ≤ (l.dropWhile blankB).reverse.length := (List.dropWhile_sublist _).length_le
  have h2 : (l.dropWhile blankB).length ≤ l.length := (List.dropWhile_sublist _).length_le
  rw [List.length_reverse] at h1
  omega
theorem trim_v : ACalls Tryz.prog 96 [strT l] (strT (trim l)) := one_str (rv := fun s => .string (str (trim s.data.toList))) (fun s w hs => WordC.trim_any s w hs) fun N w h => by rw [str_toList]; exact .str (by rw [str_size]; exact Nat.le_trans (trim_len l) h)
theorem trimOf_v : ACalls Tryz.prog 108 [strT l] (strT (trim l)) := one_str (rv := fun s => .string (str (trim s.data.toList))) (fun s w hs => (WordV.trimOf_any s w hs).mono fun e w' ⟨h1, h2⟩ => ⟨h1, h2 ▸ Below.refl _ _⟩) fun N w h => by rw [str_toList]; exact .str (by rw [str_size]; exact Nat.le_trans (trim_len l) h)
/-- Where a byte stands; -1: nowhere. -/
abbrev posB (c : UInt8) (l : List UInt8) : Int := Lib.indexByte l c
theorem pos_in (c : UInt8) (l : List UInt8) : -1 ≤ posB c l ∧ (posB c l < l.length) := by
  rcases first_at c l with h | ⟨a, r, rfl, h⟩
  · rw [posB, index_none l c h]; omega
  · rw [posB, index_at a r c h]; simp; omega
theorem pos_none {c : UInt8} {l : List UInt8} : posB c l < 0 ↔ l.contains c = false := by
  have := index_ge l c
  by_cases h : l.contains c = true
  · rw [h, decide_eq_true_eq] at this
    simp [posB]; constructor
    · intro h2; omega
    · intro h2; simp at h; exact absurd h h2
  · simp only [Bool.not_eq_true] at h
    rw [h, decide_eq_false_iff_not] at this
    simp only [posB, h, iff_true]; omega
theorem split_in (_h : ∀ x ∈ split u l, True) : ∀ x ∈ split u l, x.length ≤ l.length := by
  clear _h
  suffices H : ∀ (n : Nat) (l : List UInt8), l.length ≤ n → ∀ x ∈ split u l, x.length ≤ l.length from H l.length l (Nat.le_refl _)
  intro n
  induction n with
  | zero =>
    intro l hl x hx
    have : l = [] := List.eq_nil_of_length_eq_zero (by omega)
    subst this
    rw [split_none _ _ rfl, List.mem_singleton] at hx
    subst hx; exact Nat.le_refl _
  | succ n ih =>
    intro l hl x hx
    rcases first_at u l with h | ⟨a, r, rfl, h⟩
    · rw [split_none _ _ h, List.mem_singleton] at hx
      subst hx; exact Nat.le_refl _
    · rw [split_app _ _ _ h] at hx
      simp only [List.length_append, List.length_cons] at hl ⊢
      rcases List.mem_cons.1 hx with rfl | hx
      · omega
      · have := ih r (by omega) x hx; omega
theorem placeOf_v : ACalls Tryz.prog 51 [strT l, byteT c] (.int .i64 (posB c l)) := two_str (rv := fun s => .int .i64 (Lib.indexByte s.data.toList c)) (fun s w hs => WordV.placeOf_any s c w hs) fun N w h => by
  rw [str_toList]
  have := pos_in c l
  simp only [SLIM] at h
  exact .int ⟨by simp only [rng, posB] at *; omega, by simp only [rng, posB] at *; omega⟩
/-- Cut at the first such byte. -/
def cutF (c : UInt8) (l : List UInt8) : List UInt8 × List UInt8 × Bool := if l.contains c then (l.take (posB c l).toNat, l.drop ((posB c l).toNat + 1), true) else (l, [], false)
theorem cutF_none {c : UInt8} {l : List UInt8} (h : l.contains c = false) : cutF c l = (l, [], false) := by unfold cutF; rw [h]; rfl
theorem cutF_at {c : UInt8} {a r : List UInt8} (h : a.contains c = false) : cutF c (a ++ c :: r) = (a, r, true) := by
  unfold cutF
  have e : (a ++ c :: r).contains c = true := by simp
  rw [e, if_pos rfl, posB, index_at a r c h]
  simp
theorem cutF_len (c : UInt8) (l : List UInt8) : (cutF c l).1.length ≤ l.length ∧ (cutF c l).2.1.length ≤ l.length := by
  unfold cutF
  split
  · simp; omega
  · simp
theorem cut_v : ACalls Tryz.prog 94 [strT l, byteT c] (.tup [strT (cutF c l).1, strT (cutF c l).2.1, .bool (cutF c l).2.2]) := fun g N w vs hG hN hlen hv => by
  obtain ⟨vs⟩ := vs
  match vs, hlen with
  | [x0, x1], _ =>
    obtain ⟨rfl, h0⟩ := fz_str (hv 0 _ x0 rfl rfl)
    obtain ⟨rfl, _⟩ := fz_int (hv 1 _ x1 rfl rfl)
    refine (WordC.cut_any _ c w h0).mono fun e w' ⟨h1, h2⟩ => ⟨_, h1, h2, ?_⟩
    have e : WordC.cut c (str l).data.toList = cutF c l := by
      rw [str_toList]
      rcases first_at c l with h | ⟨a, r, rfl, h⟩
      · rw [WordC.cut_none h, cutF_none h]
      · rw [WordC.cut_at h, cutF_at h]
    have hc := cutF_len c l
    rw [str_size] at h0
    rw [e]
    refine .tup rfl fun i x y hx hy => ?_
    have hi : i < 3 := (List.getElem?_eq_some_iff.1 hx).1
    have : i = 0 ∨ i = 1 ∨ i = 2 := by omega
    rcases this with rfl | rfl | rfl <;> (cases hx; cases hy)
    · exact .str (by rw [str_size]; exact Nat.le_trans hc.1 h0)
    · exact .str (by rw [str_size]; exact Nat.le_trans hc.2 h0)
    · exact .bool
theorem shut_parts {f : FuncId} (hl : l.length ≤ 4398046511104) (h : ∀ (s : ByteArray) w, s.size ≤ 4398046511104 → Calls Tryz.prog f #[.string s, .int .u8 u.toNat] w (GivesRow w.heap.size 9 (split u s.data.toList).length (((split u s.data.toList).map str).map Value.string) w)) : ACalls Tryz.prog f [strT l, byteT u] (strsT (split u l)) := fun g N w vs hG hN hlen hv => by
  obtain ⟨vs⟩ := vs
  match vs, hlen with
  | [x0, x1], _ =>
    obtain ⟨rfl, h0⟩ := fz_str (hv 0 _ x0 rfl rfl)
    obtain ⟨rfl, _⟩ := fz_int (hv 1 _ x1 rfl rfl)
    refine (h _ w (by rw [str_size]; exact hl)).mono fun e w' ⟨v, h1, h2, h3⟩ => ⟨_, h1, h3, ?_⟩
    rw [str_toList, List.map_map] at h2
    refine fz_strs hN ?_ (fun x hx => ?_) h2
    · have := split_len u l; simp only [LIM]; omega
    · have := split_in (u := u) (l := l) (fun _ _ => trivial) x hx; simp only [SLIM]; omega
theorem parts_v (hl : l.length ≤ 4398046511104) : ACalls Tryz.prog 91 [strT l, byteT u] (strsT (split u l)) := shut_parts hl fun s w hs => WordR.parts_any s u w hs
theorem partsOf_v (hl : l.length ≤ 4398046511104) : ACalls Tryz.prog 88 [strT l, byteT u] (strsT (split u l)) := shut_parts hl fun s w hs => WordQ.partsOf_any u (s.size + 1) s (Nat.lt_succ_self _) hs w
end
end Go.Proofs.YtkgdkpiacencjaaGreatDoor.TreeW
end

section
namespace Go.Proofs.YtkgdkpiacencjaaGreatDoor.PathT
open Go.RowKit Mem Abs TreeW

/-! ### Beginnings -/
def pre (l m : List UInt8) : Bool := decide (l.take m.length = m)
theorem pre_iff (l m : List UInt8) : pre l m = true ↔ ∃ x, l = m ++ x := by
  unfold pre
  rw [decide_eq_true_eq]
  constructor
  · intro h
    exact ⟨l.drop m.length, by conv => { lhs; rw [← List.take_append_drop m.length l, h] }⟩
  · rintro ⟨x, rfl⟩
    simp
theorem pre_len {l m : List UInt8} (h : pre l m = true) : m.length ≤ l.length := by
  obtain ⟨x, rfl⟩ := (pre_iff l m).1 h
  simp
set_option maxRecDepth 100000 in
set_option maxHeartbeats 4000000 in
theorem hasPrefixL_v {l m : List UInt8} : ACalls Tryz.prog 82 [strT l, strT m] (.bool (pre l m)) := by
  refine fun2 tb_ok Tryz.func82 rfl Tryz.ntmps82 Tryz.results82 rfl fun N => ?_
  by_cases h0 : m.length ≤ l.length
  · have e : l.take ((m.length : Int)).toNat = l.take m.length := rfl
    by_cases h1 : l.take ((m.length : Int)).toNat = m
    · skip
      repeat' (first | refine zt ?_ | (refine isR ?_; first | refine zo ?_ | refine zL ?_ | refine zc4 ?_ | refine zc5 ?_ | refine zS ?_ | (refine zs4 ?_ ?_ <;> intro hc) | (refine zs5 ?_ ?_ <;> intro hc)) | refine awp_split rfl (fun hb => ?_) (fun hb => ?_) | refine zr ?_ | exact x_le)
      rw [show pre l m = true from decide_eq_true h1]; rfl
    · skip
      repeat' (first | refine zt ?_ | (refine isR ?_; first | refine zo ?_ | refine zL ?_ | refine zc4 ?_ | refine zc5 ?_ | refine zS ?_ | (refine zs4 ?_ ?_ <;> intro hc) | (refine zs5 ?_ ?_ <;> intro hc)) | refine awp_split rfl (fun hb => ?_) (fun hb => ?_) | refine zr ?_ | exact x_le)
      rw [show pre l m = false from decide_eq_false h1]; rfl
  · skip
    repeat' (first | refine zt ?_ | (refine isR ?_; first | refine zo ?_ | refine zL ?_ | refine zc4 ?_ | refine zc5 ?_ | refine zS ?_ | (refine zs4 ?_ ?_ <;> intro hc) | (refine zs5 ?_ ?_ <;> intro hc)) | refine awp_split rfl (fun hb => ?_) (fun hb => ?_) | refine zr ?_ | exact x_le)
    have : pre l m = false := by
      cases h : pre l m with
      | false => rfl
      | true => exact absurd (pre_len h) h0
    rw [this]; rfl
set_option maxRecDepth 100000 in
set_option maxHeartbeats 4000000 in
theorem hasPrefix_v {l m : List UInt8} : ACalls Tryz.prog 46 [strT l, strT m] (.bool (pre l m)) := by
  have c1 := hasPrefixL_v (l := l) (m := m)
  refine fun2 tb_ok Tryz.func46 rfl Tryz.ntmps46 Tryz.results46 rfl fun N => ?_
  repeat' (first | refine zt ?_ | (refine isR ?_; first | refine zo ?_ | refine zk c1 ?_) | refine awp_split rfl (fun hb => ?_) (fun hb => ?_) | refine zr ?_ | exact x_le)
  rfl
def cutP (l m : List UInt8) : List UInt8 × Bool := if pre l m then (l.drop m.length, true) else (l, false)
set_option maxRecDepth 100000 in
set_option maxHeartbeats 4000000 in
theorem cutPrefixL_v {l m : List UInt8} : ACalls Tryz.prog 75 [strT l, strT m] (.tup [strT (cutP l m).1, .bool (cutP l m).2]) := by
  have c1 := hasPrefixL_v (l := l) (m := m)
  cases hp : pre l m with
  | true =>
    have := pre_len hp
    have e : cutP l m = (l.drop m.length, true) := by unfold cutP; rw [hp]; rfl
    rw [e]
    rw [hp] at c1
    refine fun2 tb_ok Tryz.func75 rfl Tryz.ntmps75 Tryz.results75 rfl fun N => ?_
    repeat' (first | refine zt ?_ | (refine isR ?_; first | refine zo ?_ | refine zk c1 ?_ | refine zL ?_ | refine zS ?_) | refine awp_split rfl (fun hb => ?_) (fun hb => ?_) | refine zr ?_ | exact x_le)
    rfl
  | false =>
    have e : cutP l m = (l, false) := by unfold cutP; rw [hp]; rfl
    rw [e]
    rw [hp] at c1
    refine fun2 tb_ok Tryz.func75 rfl Tryz.ntmps75 Tryz.results75 rfl fun N => ?_
    repeat' (first | refine zt ?_ | (refine isR ?_; first | refine zo ?_ | refine zk c1 ?_ | refine zL ?_ | refine zS ?_) | refine awp_split rfl (fun hb => ?_) (fun hb => ?_) | refine zr ?_ | exact x_le)
    rfl
set_option maxRecDepth 100000 in
set_option maxHeartbeats 4000000 in
theorem cutPrefix_v {l m : List UInt8} : ACalls Tryz.prog 33 [strT l, strT m] (.tup [strT (cutP l m).1, .bool (cutP l m).2]) := by
  have c1 := cutPrefixL_v (l := l) (m := m)
  generalize cutP l m = p at *
  refine fun2 tb_ok Tryz.func33 rfl Tryz.ntmps33 Tryz.results33 rfl fun N => ?_
  repeat' (first | refine zt ?_ | (refine isR ?_; first | refine zo ?_ | refine zk c1 ?_) | refine awp_split rfl (fun hb => ?_) (fun hb => ?_) | refine zr ?_ | exact x_le)
  rfl
/-! ### Paths -/
def pathF (p o : List UInt8) : Bool := pre p o && (decide (p.drop o.length = []) || decide (o.getLast? = some 47) || decide ((p.drop o.length).head? = some 47))
end Go.Proofs.YtkgdkpiacencjaaGreatDoor.PathT
end

section
namespace Go.Proofs.YtkgdkpiacencjaaGreatDoor.ClockP

def lp (y : Int) : Bool := (y % 4 == 0 && y % 100 != 0) || y % 400 == 0
def lpn (y : Int) : Int := if lp y then 1 else 0
/-- The days of a month; 0: there is none. -/
def mlen (y m : Int) : Int :=
  if m = 2 then 28 + lpn y else if m = 4 ∨ m = 6 ∨ m = 9 ∨ m = 11 then 30 else if m = 1 ∨ m = 3 ∨ m = 5 ∨ m = 7 ∨ m = 8 ∨ m = 10 ∨ m = 12 then 31 else 0
/-- The days from 1970 to a year. -/
def dby (y : Int) : Int := 365 * (y - 1) + (y - 1) / 4 - (y - 1) / 100 + (y - 1) / 400 - 719162
/-- The days of a year ahead of a month. -/
def cum (y m : Int) : Int :=
  if m ≤ 1 then 0 else if m = 2 then 31 else (if m = 3 then 59 else if m = 4 then 90 else if m = 5 then 120 else if m = 6 then 151 else if m = 7 then 181 else if m = 8 then 212 else if m = 9 then 243 else if m = 10 then 273 else if m = 11 then 304 else if m = 12 then 334 else 365) + lpn y
theorem lpn_bd (y : Int) : 0 ≤ lpn y ∧ lpn y ≤ 1 := by unfold lpn; split <;> omega
theorem lpn_eq (y : Int) : lpn y = y / 4 - (y - 1) / 4 - (y / 100 - (y - 1) / 100) + (y / 400 - (y - 1) / 400) := by
  unfold lpn lp
  by_cases a : y % 4 = 0 <;> by_cases b : y % 100 = 0 <;> by_cases c : y % 400 = 0 <;> simp [a, b, c] <;> omega
theorem dby_succ (y : Int) : dby (y + 1) = dby y + 365 + lpn y := by
  rw [lpn_eq]; unfold dby; omega
theorem mlen_bd (y m : Int) : 0 ≤ mlen y m ∧ mlen y m ≤ 31 := by
  have := lpn_bd y; unfold mlen; repeat' split
  all_goals omega
theorem mlen_none (y m : Int) (h : m < 1 ∨ 12 < m) : mlen y m = 0 := by
  unfold mlen; repeat' split
  all_goals omega
theorem cum_succ (y m : Int) (h : 1 ≤ m) (h2 : m ≤ 12) : cum y (m + 1) = cum y m + mlen y m := by
  have : m = 1 ∨ m = 2 ∨ m = 3 ∨ m = 4 ∨ m = 5 ∨ m = 6 ∨ m = 7 ∨ m = 8 ∨ m = 9 ∨ m = 10 ∨ m = 11 ∨ m = 12 := by omega
  rcases this with h | h | h | h | h | h | h | h | h | h | h | h <;> subst h <;> simp [cum, mlen] <;> omega
theorem cum_mono (y m k : Int) (h : 1 ≤ m) (hk : k ≤ 13) (hmk : m ≤ k) : cum y m ≤ cum y k := by
  obtain ⟨n, rfl⟩ : ∃ n : Nat, k = m + n := ⟨(k - m).toNat, by omega⟩
  clear hmk
  induction n with
  | zero => simp
  | succ n ih =>
    have h1 := ih (by omega)
    have h2 := cum_succ y (m + n) (by omega) (by omega)
    have h3 := mlen_bd y (m + n)
    rw [show m + ((n + 1 : Nat) : Int) = m + n + 1 from by omega]
    omega
theorem cum_13 (y : Int) : cum y 13 = 365 + lpn y := by simp [cum]
theorem cum_1 (y m : Int) (h : m ≤ 1) : cum y m = 0 := if_pos h
theorem cum_bd (y m : Int) (h2 : m ≤ 13) : 0 ≤ cum y m ∧ cum y m ≤ 366 := by
  have h := lpn_bd y
  by_cases h1 : m ≤ 1
  · rw [cum_1 y m h1]; omega
  · have a := cum_mono y 1 m (by omega) h2 (by omega)
    have b := cum_mono y m 13 (by omega) (by omega) h2
    rw [cum_1 y 1 (by omega)] at a
    rw [cum_13] at b
    omega
/-- The day of a date. -/
def num (y m d : Int) : Int := dby y + cum y m + d - 1
def vld (y m d : Int) : Prop := 1601 ≤ y ∧ y ≤ 9999 ∧ 1 ≤ d ∧ d ≤ mlen y m
instance (y m d : Int) : Decidable (vld y m d) := by unfold vld; infer_instance
theorem vld_m {y m d : Int} (h : vld y m d) : 1 ≤ m ∧ m ≤ 12 := by
  obtain ⟨_, _, h3, h4⟩ := h
  refine ⟨Int.not_lt.1 fun hh => ?_, Int.not_lt.1 fun hh => ?_⟩ <;> rw [mlen_none _ _ (by omega)] at h4 <;> omega
theorem dby_mono (a b : Int) (h : a ≤ b) : dby a ≤ dby b := by unfold dby; omega
theorem num_lt {y m d : Int} (h : vld y m d) : dby y ≤ num y m d ∧ num y m d < dby (y + 1) := by
  have hm := vld_m h
  obtain ⟨_, _, h3, h4⟩ := h
  have c0 := cum_bd y m (by omega)
  have c1 := cum_succ y m hm.1 hm.2
  have c2 := cum_mono y (m + 1) 13 (by omega) (by omega) (by omega)
  have c3 : cum y 13 = 365 + lpn y := by simp [cum]
  rw [dby_succ]; unfold num; omega
/-! The reference's reckoning, by eras. -/
def dayNo (y m d : Int) : Int :=
  let m' := if m - 3 < 0 then m - 3 + 12 else m - 3
  let y' := if m - 3 < 0 then y - 1 else y
  y' / 400 * 146097 + y' % 400 * 365 + y' % 400 / 4 - y' % 400 / 100 + (153 * m' + 2) / 5 + d - 1 - 719468
theorem era_sum (y : Int) : y / 400 * 146097 + y % 400 * 365 + y % 400 / 4 - y % 400 / 100 = 365 * y + y / 4 - y / 100 + y / 400 := by omega
theorem dayNo_num (y m d : Int) (h : 1 ≤ m) (h2 : m ≤ 12) : dayNo y m d = num y m d := by
  have e := era_sum y
  have e1 := era_sum (y - 1)
  have l := lpn_eq y
  have : m = 1 ∨ m = 2 ∨ m = 3 ∨ m = 4 ∨ m = 5 ∨ m = 6 ∨ m = 7 ∨ m = 8 ∨ m = 9 ∨ m = 10 ∨ m = 11 ∨ m = 12 := by omega
  rcases this with h | h | h | h | h | h | h | h | h | h | h | h <;> subst h <;> simp only [dayNo, num, cum, dby] <;> simp <;> omega

/-- A moment of a time that is one. -/
def mom (y m d h mi s : Int) : Int := num y m d * 86400 + h * 3600 + mi * 60 + s
def right (y m d h mi s : Int) : Prop := vld y m d ∧ 0 ≤ h ∧ h ≤ 23 ∧ 0 ≤ mi ∧ mi ≤ 59 ∧ 0 ≤ s ∧ s ≤ 59
theorem dby_first : dby 1601 = -134774 := by decide
theorem dby_last : dby 10000 = 2932897 := by decide
theorem mom_bd {y m d h mi s : Int} (a : right y m d h mi s) : -11644473600 ≤ mom y m d h mi s ∧ mom y m d h mi s ≤ 253402300799 := by
  obtain ⟨v, a1, a2, a3, a4, a5, a6⟩ := a
  have n := num_lt v
  have m1 := dby_mono 1601 y v.1
  have m2 := dby_mono (y + 1) 10000 (by have := v.2.1; omega)
  rw [dby_first] at m1
  rw [dby_last] at m2
  unfold mom
  omega

/-! The reference's way back, by eras. -/
def eraOf (n : Int) : Int := ((n + 11644473600) / 86400 - 134774 + 719468) / 146097
def inOf (n : Int) : Int := ((n + 11644473600) / 86400 - 134774 + 719468) % 146097
def yOf (i : Int) : Int := (i - i / 1460 + i / 36524 - i / 146096) / 365
def kOf (i : Int) : Int := i - (365 * yOf i + yOf i / 4 - yOf i / 100)
def mOf (i : Int) : Int := (5 * kOf i + 2) / 153
def dOf (i : Int) : Int := kOf i - (153 * mOf i + 2) / 5 + 1
/-- A day of an era in centuries, fours of years, and days. -/
theorem split_in (i : Int) (h : 0 ≤ i) (h2 : i < 146097) : ∃ c q r j : Int, i = 36524 * c + 1461 * q + r ∧ 0 ≤ c ∧ c ≤ 3 ∧ 0 ≤ q ∧ q ≤ 24 ∧ 0 ≤ r ∧ r ≤ 1460 ∧ (q = 24 → r = 1460 → c = 3) ∧
    0 ≤ j ∧ j ≤ 3 ∧ 365 * j ≤ r ∧ (r < 365 * j + 365 ∨ (r = 1460 ∧ j = 3)) := by
  by_cases hl : i = 146096
  · exact ⟨3, 24, 1460, 3, by omega, by omega, by omega, by omega, by omega, by omega, by omega, by omega, by omega, by omega, by omega, by omega⟩
  · by_cases hr : (i % 36524) % 1461 = 1460
    · exact ⟨i / 36524, (i % 36524) / 1461, (i % 36524) % 1461, 3, by omega, by omega, by omega, by omega, by omega, by omega, by omega, by omega, by omega, by omega, by omega, by omega⟩
    · exact ⟨i / 36524, (i % 36524) / 1461, (i % 36524) % 1461, (i % 36524) % 1461 / 365, by omega, by omega, by omega, by omega, by omega, by omega, by omega, by omega, by omega, by omega, by omega, by omega⟩
def yE (e y m : Int) : Int := if 12 < m + 3 then e * 400 + y + 1 else e * 400 + y
def mE (m : Int) : Int := if 12 < m + 3 then m + 3 - 12 else m + 3
/-- The reference's time of a moment. -/
def refY (n : Int) : Int := yE (eraOf n) (yOf (inOf n)) (mOf (inOf n))
def refM (n : Int) : Int := mE (mOf (inOf n))
end Go.Proofs.YtkgdkpiacencjaaGreatDoor.ClockP
end

section
namespace Go.Proofs.YtkgdkpiacencjaaGreatDoor.FnB
open Go.RowKit Mem Abs

set_option maxRecDepth 100000 in
set_option maxHeartbeats 4000000 in
theorem index_b {gl : Glob} {g : Nat} {caps : List V} {p : UInt8 → Bool} {l : List UInt8} (hg : hasBody Tryz.prog g = true) (hc : V.namesL caps = []) (hl : l.length ≤ LIM) (h : ∀ c ∈ l, ACallsG Tryz.prog gl g ([] ++ [byteT c] ++ caps) (.bool (p c))) : ACallsG Tryz.prog gl 162 [.fro (l.map byteT), .fn (.func g) [] caps] (.int .i64 (firstI p l)) := by
  refine funG2 tb_ok Tryz.func162 rfl Tryz.ntmps162 Tryz.results162 rfl fun N => ?_
  repeat' (first | refine zt ?_ | (refine isR ?_; first | refine zo ?_ | refine zA ?_ | refine zL ?_ | refine zc1 ?_ | refine zI ?_ | (refine zs1 ?_ ?_ <;> intro hc)) | refine awp_split rfl (fun hb => ?_) (fun hb => ?_) | refine zr ?_ | exact x_le)
  refine awp_for (fun k => ⟨[(0, .fro (l.map byteT)), (1, .fn (.func g) [] caps), (7, .int .i64 (l.map byteT).length), (8, .int .i64 (k : Int))], [], 0, 19⟩) (fun k => k ≤ l.length ∧ ∀ j y, j < k → l[j]? = some y → p y = false) l.length 0 ?_ ⟨Nat.zero_le _, fun j y h => absurd h (Nat.not_lt_zero _)⟩ ?_
  · exact (by exact x_le)
  · intro k ⟨hk, hp⟩
    simp only [LIM] at hl
    have e0 : ((l.map byteT).length : Int) = (l.length : Int) := by simp
    by_cases hk2 : k < l.length
    · have e1 : (l.map byteT)[k]? = some (byteT l[k]) := by simp [hk2]
      have h1 := h l[k] (List.getElem_mem hk2)
      repeat' (first | refine zt ?_ | (refine isR ?_; first | refine zo ?_ | refine r_splitB rfl rfl rfl (law_callv (vs := [_]) rfl (enters hg) (by rfl) h1 (by simp [V.namesL, V.names, hc])) (hT rfl (hT rfl Abs.h0)) (fun hb => ?_) (fun hb => ?_) | refine zA ?_ | refine zL ?_ | refine zc1 ?_ | refine zI ?_ | (refine zs1 ?_ ?_ <;> intro hc)) | refine awp_split rfl (fun hb => ?_) (fun hb => ?_) | refine zr ?_ | exact x_le)
      · show V.int .i64 _ = V.int .i64 _
        rw [firstI_at hp (List.getElem?_eq_getElem hk2) hb]
      · refine ⟨⟨by omega, fun j y hj hy => ?_⟩, by omega, ?_⟩
        · rcases Nat.lt_succ_iff_lt_or_eq.1 hj with h1 | rfl
          · exact hp j y h1 hy
          · rw [List.getElem?_eq_getElem hk2] at hy; cases hy; exact hb
        · exact (by exact x_le)
    · skip
      repeat' (first | refine zt ?_ | (refine isR ?_; first | refine zo ?_ | refine zA ?_ | refine zL ?_ | refine zc1 ?_ | refine zI ?_ | (refine zs1 ?_ ?_ <;> intro hc)) | refine awp_split rfl (fun hb => ?_) (fun hb => ?_) | refine zr ?_ | exact x_le)
      show V.int .i64 _ = V.int .i64 _
      rw [firstI_none fun x hx => ?_]
      obtain ⟨i, hi⟩ := List.mem_iff_getElem?.1 hx
      exact hp i x (by have := (List.getElem?_eq_some_iff.1 hi).1; omega) hi
set_option maxRecDepth 100000 in
set_option maxHeartbeats 4000000 in
theorem contains_b {gl : Glob} {g : Nat} {caps : List V} {p : UInt8 → Bool} {l : List UInt8} (hg : hasBody Tryz.prog g = true) (hc : V.namesL caps = []) (hl : l.length ≤ LIM) (h : ∀ c ∈ l, ACallsG Tryz.prog gl g ([] ++ [byteT c] ++ caps) (.bool (p c))) : ACallsG Tryz.prog gl 137 [.fro (l.map byteT), .fn (.func g) [] caps] (.bool (l.any p)) := by
  have hi := index_b hg hc hl h
  have hn : V.namesL [.fro (l.map byteT), .fn (.func g) [] caps] = [] := by simp [V.namesL, V.names, hc]
  refine funG2 tb_ok Tryz.func137 rfl Tryz.ntmps137 Tryz.results137 rfl fun N => ?_
  repeat' (first | refine zt ?_ | (refine isR ?_; first | refine zo ?_ | refine zc4 ?_ | (refine zs4 ?_ ?_ <;> intro hc)) | refine awp_split rfl (fun hb => ?_) (fun hb => ?_) | refine zr ?_ | exact x_le)
  refine r_val rfl rfl rfl (law_call rfl (enters (by kernel_rfl)) (by rfl) hi hn) (hT rfl (hT rfl Abs.h0)) ?_
  repeat' (first | refine zt ?_ | (refine isR ?_; first | refine zo ?_ | refine zc4 ?_ | (refine zs4 ?_ ?_ <;> intro hc)) | refine awp_split rfl (fun hb => ?_) (fun hb => ?_) | refine zr ?_ | exact x_le)
  · show V.bool _ = V.bool _
    rw [firstI_ge.1 (by assumption)]
  · show V.bool _ = V.bool _
    have : ¬ (l.any p = true) := fun h => by have := firstI_ge.2 h; contradiction
    simp only [Bool.not_eq_true] at this
    rw [this]
end Go.Proofs.YtkgdkpiacencjaaGreatDoor.FnB
end

section
namespace Go.Proofs.YtkgdkpiacencjaaGreatDoor.HostA
open Go.RowKit Mem Abs HostP

set_option maxRecDepth 100000 in
set_option maxHeartbeats 4000000 in
theorem isDigit_v {c : UInt8} : ACalls Tryz.prog 42 [byteT c] (.bool (digB c)) := by
  refine fun1 tb_ok Tryz.func42 rfl Tryz.ntmps42 Tryz.results42 rfl fun N => ?_
  repeat' (first | refine zt ?_ | (refine isR ?_; first | refine zo ?_ | refine zc2 ?_ | refine zc4 ?_ | (refine zs2 ?_ ?_ <;> intro hc) | (refine zs4 ?_ ?_ <;> intro hc)) | refine awp_split rfl (fun hb => ?_) (fun hb => ?_) | refine zr ?_ | exact x_le)
  all_goals (show V.bool _ = V.bool _; congr 1; unfold digB; simp; omega)
set_option maxRecDepth 100000 in
set_option maxHeartbeats 4000000 in
theorem outer_v {c : UInt8} : ACalls Tryz.prog 136 [byteT c] (.bool (outerB c)) := by
  refine fun1 tb_ok Tryz.func136 rfl Tryz.ntmps136 Tryz.results136 rfl fun N => ?_
  repeat' (first | refine zt ?_ | (refine isR ?_; first | refine zo ?_ | refine zc2 ?_ | refine zc4 ?_ | (refine zs2 ?_ ?_ <;> intro hc) | (refine zs4 ?_ ?_ <;> intro hc)) | refine awp_split rfl (fun hb => ?_) (fun hb => ?_) | refine zr ?_ | exact x_le)
  all_goals (show V.bool _ = V.bool _; congr 1; unfold outerB digB; simp; omega)
abbrev outerT : Abs.V := .fn (.func 136) [] []
set_option maxRecDepth 100000 in
set_option maxHeartbeats 4000000 in
theorem inner_v {c : UInt8} : ACalls Tryz.prog 138 [byteT c, .fp [outerT] 0] (.bool (!hostB c)) := by
  refine fun2 tb_ok Tryz.func138 rfl Tryz.ntmps138 Tryz.results138 rfl fun N => ?_
  have h1 := outer_v (c := c)
  repeat' (first | refine zt ?_ | (refine isR ?_; first | refine zo ?_ | refine x_callvS (h1 _) (fun hb => ?_) (fun hb => ?_) | refine x_callvS (h1) (fun hb => ?_) (fun hb => ?_) | refine zc6 ?_ | (refine zs6 ?_ ?_ <;> intro hc)) | refine awp_split rfl (fun hb => ?_) (fun hb => ?_) | refine zr ?_ | exact x_le)
  all_goals (show V.bool _ = V.bool _; congr 1; unfold hostB; simp [*])
  all_goals omega
theorem str_lim {l : List UInt8} {r : List Abs.V} (h : V.LimL (strT l :: r)) : l.length ≤ 4611686018427387904 ∧ V.LimL r := by
  have := h.1
  rw [V.Lim, str_size] at this
  exact ⟨this, h.2⟩
set_option maxRecDepth 100000 in
set_option maxHeartbeats 4000000 in
theorem label_v {l : List UInt8} : ACalls Tryz.prog 114 [strT l] (.bool (label l)) := ACalls.lim fun hl => by
  obtain ⟨hl, _⟩ := str_lim hl
  refine fun1 tb_ok Tryz.func114 rfl Tryz.ntmps114 Tryz.results114 rfl fun N => ?_
  by_cases h0 : l = []
  · subst h0
    repeat' (first | refine zt ?_ | (refine isR ?_; first | refine zo ?_ | refine zA ?_ | refine zL ?_ | refine zc3 ?_ | refine zc5 ?_ | refine zI ?_ | refine zB ?_ | (refine zs3 ?_ ?_ <;> intro hc) | (refine zs5 ?_ ?_ <;> intro hc)) | refine awp_split rfl (fun hb => ?_) (fun hb => ?_) | refine zr ?_ | exact x_le)
    rfl
  · have hp : 0 < l.length := List.length_pos_iff.2 h0
    have h1 : l[(0 : Int).toNat]? = some (l[0]) := by simp
    have h2 : l[((l.length : Int) - 1).toNat]? = some (l[l.length - 1]) := by
      rw [show ((l.length : Int) - 1).toNat = l.length - 1 by omega]; simp
    have e1 : l.getD 0 0 = l[0] := by rw [List.getD_eq_getElem?_getD, List.getElem?_eq_getElem hp]; rfl
    have e2 : l.getD (l.length - 1) 0 = l[l.length - 1] := by rw [List.getD_eq_getElem?_getD, List.getElem?_eq_getElem (by omega)]; rfl
    generalize l[0] = a at h1 e1
    generalize l[l.length - 1] = b at h2 e2
    have c1 := outer_v (c := a)
    have c2 := outer_v (c := b)
    by_cases hm : 63 < l.length
    · skip
      repeat' (first | refine zt ?_ | (refine isR ?_; first | refine zo ?_ | refine zA ?_ | refine zL ?_ | refine zc3 ?_ | refine zc5 ?_ | refine zI ?_ | refine zB ?_ | (refine zs3 ?_ ?_ <;> intro hc) | (refine zs5 ?_ ?_ <;> intro hc)) | refine awp_split rfl (fun hb => ?_) (fun hb => ?_) | refine zr ?_ | exact x_le)
      show V.bool _ = V.bool _
      congr 1; unfold label; simp; intros; omega
    · have c3 := fun gl => FnB.contains_b (gl := gl) (g := 138) (caps := [.fp [outerT] 0]) (p := fun c => !hostB c) (l := l) (by kernel_rfl) rfl (by simp only [LIM]; omega) (fun c _ => inner_v gl)
      repeat' (first | refine zt ?_ | (refine isR ?_; first | refine zo ?_ | refine x_callvS (c1 _) (fun hb => ?_) (fun hb => ?_) | refine x_callvS (c1) (fun hb => ?_) (fun hb => ?_) | refine x_callvS (c2 _) (fun hb => ?_) (fun hb => ?_) | refine x_callvS (c2) (fun hb => ?_) (fun hb => ?_) | refine x_callzS [0] (c3 _) (fun hb => ?_) (fun hb => ?_) | refine x_callzS [0] (c3) (fun hb => ?_) (fun hb => ?_) | refine zA ?_ | refine zL ?_ | refine zc3 ?_ | refine zc5 ?_ | refine zI ?_ | refine zB ?_ | (refine zs3 ?_ ?_ <;> intro hc) | (refine zs5 ?_ ?_ <;> intro hc)) | refine awp_split rfl (fun hb => ?_) (fun hb => ?_) | refine zr ?_ | exact x_le)
      all_goals
        show V.bool _ = V.bool _
        congr 1; unfold label; rw [e1, e2]
        have hq : l.length ≤ 63 := by omega
        simp_all
theorem host_outer {c : UInt8} (h : hostB c = true) (h2 : ¬ ((c.toNat : Int) = 45)) : outerB c = true := by
  unfold hostB at h
  rw [Bool.or_eq_true] at h
  rcases h with h | h
  · exact h
  · simp at h; omega
theorem outer_45 {c : UInt8} (h : ((c.toNat : Int) = 45)) : outerB c = false := by
  unfold outerB digB
  simp; omega
set_option maxRecDepth 100000 in
set_option maxHeartbeats 4000000 in
theorem isLabel_v {l : List UInt8} : ACalls Tryz.prog 113 [strT l] (.bool (label l)) := ACalls.lim fun hl => by
  obtain ⟨hl, _⟩ := str_lim hl
  refine fun1 tb_ok Tryz.func113 rfl Tryz.ntmps113 Tryz.results113 rfl fun N => ?_
  by_cases h0 : l = []
  · have hz : l.length = 0 := by rw [h0]; rfl
    repeat' (first | refine zt ?_ | (refine isR ?_; first | refine zo ?_ | refine zA ?_ | refine zL ?_ | refine zc1 ?_ | refine zc2 ?_ | refine zc3 ?_ | refine zc4 ?_ | refine zc5 ?_ | refine zc6 ?_ | refine zI ?_ | (refine zs1 ?_ ?_ <;> intro hc) | (refine zs2 ?_ ?_ <;> intro hc) | (refine zs3 ?_ ?_ <;> intro hc) | (refine zs4 ?_ ?_ <;> intro hc) | (refine zs5 ?_ ?_ <;> intro hc) | (refine zs6 ?_ ?_ <;> intro hc)) | refine awp_split rfl (fun hb => ?_) (fun hb => ?_) | refine zr ?_ | exact x_le)
    rw [h0]; rfl
  · have hp : 0 < l.length := List.length_pos_iff.2 h0
    have h1 : l[(0 : Int).toNat]? = some (l[0]) := by simp
    have h2 : l[((l.length : Int) - 1).toNat]? = some (l[l.length - 1]) := by
      rw [show ((l.length : Int) - 1).toNat = l.length - 1 by omega]; simp
    have e1 : l.getD 0 0 = l[0] := by rw [List.getD_eq_getElem?_getD, List.getElem?_eq_getElem hp]; rfl
    have e2 : l.getD (l.length - 1) 0 = l[l.length - 1] := by rw [List.getD_eq_getElem?_getD, List.getElem?_eq_getElem (by omega)]; rfl
    have m1 : l[0] ∈ l := List.getElem_mem _
    have m2 : l[l.length - 1] ∈ l := List.getElem_mem _
    generalize l[0] = a at h1 e1 m1
    generalize l[l.length - 1] = b at h2 e2 m2
    have el : label l = (decide (l.length ≤ 63) && outerB a && outerB b && l.all hostB) := by
      unfold label; rw [e1, e2]; cases l with
      | nil => exact absurd rfl h0
      | cons => rfl
    rw [el]
    repeat' (first | refine zt ?_ | (refine isR ?_; first | refine zo ?_ | refine zA ?_ | refine zL ?_ | refine zc1 ?_ | refine zc2 ?_ | refine zc3 ?_ | refine zc4 ?_ | refine zc5 ?_ | refine zc6 ?_ | refine zI ?_ | (refine zs1 ?_ ?_ <;> intro hc) | (refine zs2 ?_ ?_ <;> intro hc) | (refine zs3 ?_ ?_ <;> intro hc) | (refine zs4 ?_ ?_ <;> intro hc) | (refine zs5 ?_ ?_ <;> intro hc) | (refine zs6 ?_ ?_ <;> intro hc)) | refine awp_split rfl (fun hb => ?_) (fun hb => ?_) | refine zr ?_ | exact x_le)
    · show V.bool _ = V.bool _
      simp; intros; omega
    · show V.bool _ = V.bool _
      simp [outer_45 (by assumption)]
    · show V.bool _ = V.bool _
      simp [outer_45 (c := b) (by assumption)]
    · refine awp_for (fun k => ⟨[(0, strT l), (3, .int .i64 (k : Int))], [], 0, 55⟩) (fun k => k ≤ l.length ∧ Upto hostB l k) l.length 0 ?_ ⟨Nat.zero_le _, upto0⟩ ?_
      · exact (by exact x_le)
      · intro k ⟨hk, hq⟩
        by_cases hk2 : k < l.length
        · have e1 : l[k]? = some l[k] := by simp [hk2]
          generalize l[k] = c at e1
          have hd := isDigit_v (c := c)
          repeat' (first | refine zt ?_ | (refine isR ?_; first | refine zo ?_ | refine x_callvS (hd _) (fun hb => ?_) (fun hb => ?_) | refine x_callvS (hd) (fun hb => ?_) (fun hb => ?_) | refine x_callS (hd _) (fun hb => ?_) (fun hb => ?_) | refine x_callS (hd) (fun hb => ?_) (fun hb => ?_) | refine zA ?_ | refine zL ?_ | refine zc1 ?_ | refine zc2 ?_ | refine zc3 ?_ | refine zc4 ?_ | refine zc5 ?_ | refine zc6 ?_ | refine zI ?_ | (refine zs1 ?_ ?_ <;> intro hc) | (refine zs2 ?_ ?_ <;> intro hc) | (refine zs3 ?_ ?_ <;> intro hc) | (refine zs4 ?_ ?_ <;> intro hc) | (refine zs5 ?_ ?_ <;> intro hc) | (refine zs6 ?_ ?_ <;> intro hc)) | refine awp_split rfl (fun hb => ?_) (fun hb => ?_) | refine zr ?_ | exact x_le)
          all_goals first
            | (show V.bool _ = V.bool _
               rw [all_no (p := hostB) e1 (by unfold hostB outerB; simp [*]; omega)]
               simp)
            | (refine ⟨⟨by omega, hq.on e1 (by unfold hostB outerB; simp [*]; try omega)⟩, by omega, ?_⟩
               exact (by exact x_le))
        · skip
          repeat' (first | refine zt ?_ | (refine isR ?_; first | refine zo ?_ | refine zA ?_ | refine zL ?_ | refine zc1 ?_ | refine zc2 ?_ | refine zc3 ?_ | refine zc4 ?_ | refine zc5 ?_ | refine zc6 ?_ | refine zI ?_ | (refine zs1 ?_ ?_ <;> intro hc) | (refine zs2 ?_ ?_ <;> intro hc) | (refine zs3 ?_ ?_ <;> intro hc) | (refine zs4 ?_ ?_ <;> intro hc) | (refine zs5 ?_ ?_ <;> intro hc) | (refine zs6 ?_ ?_ <;> intro hc)) | refine awp_split rfl (fun hb => ?_) (fun hb => ?_) | refine zr ?_ | exact x_le)
          show V.bool _ = V.bool _
          have hall2 := hq.all hk2
          have hall := List.all_eq_true.1 hall2
          rw [host_outer (hall a m1) (by assumption), host_outer (hall b m2) (by assumption), hall2]
          simp; omega
end Go.Proofs.YtkgdkpiacencjaaGreatDoor.HostA
end

section
namespace Go.Proofs.YtkgdkpiacencjaaGreatDoor.Lead
open Go.RowKit Mem Abs HostP HostO HostA TreeW WordP WordS

theorem lead_at {l : List UInt8} {k : Nat} (hk : k ≤ l.length) (h : Upto digB l k) (he : ∀ c, l[k]? = some c → digB c = false) : lead l = l.take k := by
  induction l generalizing k with
  | nil => simp [lead]
  | cons c r ih =>
    unfold lead
    cases k with
    | zero =>
      rw [List.takeWhile_cons, if_neg (by rw [he c rfl]; simp)]
      rfl
    | succ k =>
      rw [List.takeWhile_cons, if_pos (h 0 c (by omega) rfl), List.take_succ_cons]
      congr 1
      exact ih (by simpa using hk) (fun j y hj hy => h (j + 1) y (by omega) (by simpa using hy)) (fun x hx => he x (by simpa using hx))
theorem value5 {l : List UInt8} {k : Nat} {c : UInt8} (h : l[k]? = some c) (hk : k < 5) : value ((l.take (k + 1)).take 5) = 10 * value ((l.take k).take 5) + (c.toNat - 48) := by
  have hl := (List.getElem?_eq_some_iff.1 h)
  rw [List.take_take, List.take_take, Nat.min_eq_right (by omega), Nat.min_eq_right (by omega), List.take_succ_eq_append_getElem hl.1, value_snoc, hl.2]
theorem value5_on {l : List UInt8} {k : Nat} (hk : ¬ k < 5) : value ((l.take (k + 1)).take 5) = value ((l.take k).take 5) := by
  rw [List.take_take, List.take_take, Nat.min_eq_left (by omega), Nat.min_eq_left (by omega)]
theorem upto_take {l : List UInt8} {k : Nat} (h : Upto digB l k) : (l.take k).all digB = true := List.all_eq_true.2 fun x hx => by
  obtain ⟨i, hi⟩ := List.mem_iff_getElem?.1 hx
  rw [List.getElem?_take] at hi
  split at hi
  · exact h i x (by assumption) hi
  · cases hi
theorem value5_le {l : List UInt8} {k : Nat} (h : Upto digB l k) : value ((l.take k).take 5) < 100000 := by
  have h1 := upto_take h
  have h2 : ((l.take k).take 5).all digB = true := List.all_eq_true.2 fun x hx => List.all_eq_true.1 h1 x (List.mem_of_mem_take hx)
  have h3 := value_le _ h2
  have h4 : ((l.take k).take 5).length ≤ 5 := by simp; omega
  have h5 : 10 ^ ((l.take k).take 5).length ≤ 10 ^ 5 := Nat.pow_le_pow_right (by decide) h4
  omega
theorem dig_nat {c : UInt8} (h : digB c = true) : 48 ≤ c.toNat ∧ c.toNat ≤ 57 := by
  unfold digB at h
  simpa using h
abbrev pairN (a b : Nat) : Abs.V := .tup [.int .i64 (a : Int), .int .i64 (b : Int)]
set_option maxRecDepth 100000 in
set_option maxHeartbeats 4000000 in
theorem leadDigits_v {l : List UInt8} : ACalls Tryz.prog 89 [strT l] (pairN (lead l).length (leadN l)) := ACalls.lim fun hl => by
  obtain ⟨hl, _⟩ := TreeW.str_lim hl
  refine fun1 tb_ok Tryz.func89 rfl Tryz.ntmps89 Tryz.results89 rfl fun N => ?_
  repeat' (first | refine zt ?_ | (refine isR ?_; first | refine zo ?_ | refine zA ?_ | refine zL ?_ | refine zc1 ?_ | refine zI ?_ | refine zB ?_ | (refine zs1 ?_ ?_ <;> intro hc)) | refine awp_split rfl (fun hb => ?_) (fun hb => ?_) | refine zr ?_ | exact x_le)
  refine awp_for (fun k => ⟨[(0, strT l), (4, .int .i64 (k : Int)), (5, .int .i64 ((value ((l.take k).take 5) : Nat) : Int))], [], 0, 30⟩) (fun k => k ≤ l.length ∧ Upto digB l k) l.length 0 ?_ ⟨Nat.zero_le _, upto0⟩ ?_
  · have e : value ((l.take 0).take 5) = 0 := rfl
    rw [e]
    exact (by exact x_le)
  · intro k ⟨hk, hq⟩
    have hv := value5_le hq
    have fin : (∀ c, l[k]? = some c → digB c = false) → pairN k (value ((l.take k).take 5)) = pairN (lead l).length (leadN l) := fun he => by
      unfold leadN
      rw [lead_at hk hq he, List.length_take, Nat.min_eq_left hk]
    by_cases hk2 : k < l.length
    · have e1 : l[k]? = some l[k] := by simp [hk2]
      generalize l[k] = c at e1
      have hd := isDigit_v (c := c)
      have hc := c.toNat_lt
      by_cases hdc : digB c = true
      · rw [hdc] at hd
        have hn := dig_nat hdc
        have e5 := value5 e1
        have e6 := value5_on (l := l) (k := k)
        generalize hm : value ((l.take k).take 5) = m at *
        by_cases h5 : k < 5
        · have e5 := e5 h5
          repeat' (first | refine zt ?_ | (refine isR ?_; first | refine zo ?_ | refine zk hd ?_ | refine zA ?_ | refine zL ?_ | refine zc1 ?_ | refine zI ?_ | refine zB ?_ | (refine zs1 ?_ ?_ <;> intro hc)) | refine awp_split rfl (fun hb => ?_) (fun hb => ?_) | refine zr ?_ | exact x_le)
          refine ⟨⟨by omega, hq.on e1 hdc⟩, hk2, ?_⟩
          rw [e5, show ((10 * m + (c.toNat - 48) : Nat) : Int) = (m : Int) * 10 + (c.toNat : Int) - 48 by omega]
          exact (by exact x_le)
        · have e6 := e6 h5
          repeat' (first | refine zt ?_ | (refine isR ?_; first | refine zo ?_ | refine zk hd ?_ | refine zA ?_ | refine zL ?_ | refine zc1 ?_ | refine zI ?_ | refine zB ?_ | (refine zs1 ?_ ?_ <;> intro hc)) | refine awp_split rfl (fun hb => ?_) (fun hb => ?_) | refine zr ?_ | exact x_le)
          refine ⟨⟨by omega, hq.on e1 hdc⟩, hk2, ?_⟩
          rw [e6]
          exact (by exact x_le)
      · simp only [Bool.not_eq_true] at hdc
        rw [hdc] at hd
        repeat' (first | refine zt ?_ | (refine isR ?_; first | refine zo ?_ | refine zk hd ?_ | refine zA ?_ | refine zL ?_ | refine zc1 ?_ | refine zI ?_ | refine zB ?_ | (refine zs1 ?_ ?_ <;> intro hc)) | refine awp_split rfl (fun hb => ?_) (fun hb => ?_) | refine zr ?_ | exact x_le)
        exact fin fun x hx => by rw [e1] at hx; cases hx; exact hdc
    · skip
      repeat' (first | refine zt ?_ | (refine isR ?_; first | refine zo ?_ | refine zA ?_ | refine zL ?_ | refine zc1 ?_ | refine zI ?_ | refine zB ?_ | (refine zs1 ?_ ?_ <;> intro hc)) | refine awp_split rfl (fun hb => ?_) (fun hb => ?_) | refine zr ?_ | exact x_le)
      exact fin fun x hx => by have := (List.getElem?_eq_some_iff.1 hx).1; omega
end Go.Proofs.YtkgdkpiacencjaaGreatDoor.Lead
end
