/- What is above a host: the walk of Ups, an iterator that is collected. -/
import Derived.Test.YtkgdkpiacencjaaDoorHostD
import Derived.Test.YtkgdkpiacencjaaDoorWordR
namespace Go.Proofs.YtkgdkpiacencjaaDoor.HostE
open Go.RowKit Go.Shelf Mem WordP OneB WordS Range HostP Globs
open WordR (grown_of_below box_same boxLen boxLen_of)
open WordC (cut cut_none cut_at cut_any)
open WordW (str str_size mkB)
attribute [local go_sem] Oper.semAt_some

/-- The variables of the package, whatever else turns. -/
def Same (W w : World) : Prop := ∀ k, k < gN → W.heap[k]? = w.heap[k]?
theorem glob_same {W w : World} (h : Abs.GlOk gStr (fun _ => False) w) (hs : Same W w) (hz : w.heap.size ≤ W.heap.size) : Abs.GlOk gStr (fun _ => False) W := by
  refine ⟨Nat.le_trans h.1 hz, fun b hb => hb.elim, ?_⟩
  have e : (fun i => if i < gStr.n then W.heap[i]? else none) = fun i => if i < gStr.n then w.heap[i]? else none := by
    funext i
    by_cases hi : i < gStr.n
    · rw [if_pos hi, if_pos hi]; exact hs i hi
    · rw [if_neg hi, if_neg hi]
  rw [e]; exact h.2.2
theorem abs_str (l : List UInt8) : Abs.str l = str l := rfl
/-- Address, on values. -/
theorem address_any (s : ByteArray) (hs : s.size ≤ 4398046511104) (w : World) (hG : Abs.GlOk gStr (fun _ => False) w) : Calls Tryd.prog 23 #[.string s] w (Gives (.bool (address s.data.toList)) w) := by
  have h := HostC.address_v (l := s.data.toList) (by simpa using hs)
  refine (h (fun _ => False) w #[.string s] hG (fun _ h => h.elim) rfl fun i v x hv hx => ?_).mono fun e w' ⟨x, h1, h2, h3⟩ => ⟨by rw [h1, Abs.fz_bool h3], h2⟩
  rcases i with _ | i
  · cases hv; cases hx
    rw [Abs.strT, Abs.str_data]
    exact .str (by simp only [Abs.SLIM]; omega)
  · simp at hv
/-- What is handed out still. -/
def rest (alone : Bool) (cur : List UInt8) (more : Bool) : List (List UInt8) := bif more then (bif alone then [cur] else cur :: after cur) else []
theorem rest_none {cur : List UInt8} (h : cur.contains 46 = false) : rest false cur true = cur :: rest false [] false := by
  unfold rest
  simp [after_none cur h]
theorem rest_at {a r : List UInt8} (h : a.contains 46 = false) : rest false (a ++ 46 :: r) true = (a ++ 46 :: r) :: rest false r true := by
  unfold rest
  simp [after_at a r h]
theorem rest_ups (l : List UInt8) : rest (address l) l (decide (l ≠ [])) = upsF l := by
  unfold rest upsF
  by_cases h : l = []
  · simp [h]
  · cases address l <;> simp [h]
def mu (b : Nat) (v : Value) (W : World) : Nat := match v with
  | .bool true => boxLen b W + 1
  | _ => 0
set_option maxRecDepth 100000 in
set_option maxHeartbeats 4000000 in
theorem iter_hands (b : Nat) (_hb8 : gN ≤ b) (s : ByteArray) (w : World) (hs : s.size ≤ 4398046511104) (hG : Abs.GlOk gStr (fun _ => False) w) (n : Nat) (hn : 1 ≤ n) (hb : Boxed w b 9 (.string s)) :
    Hands Fence.wide n Tryd.prog 75 #[.pointer (some ⟨b, 0, none⟩)] (fun x : ByteArray => #[Value.string x]) b (fun k => k = b ∨ k < gN) (fun xs => xs = (upsF s.data.toList).map str) (s.size + 1) w := by
  intro l J W hW hz hJ hY h0
  have hbW : Boxed W b 9 (.string s) := box_same hb (hW b (.inl rfl))
  have hGW : Abs.GlOk gStr (fun _ => False) W := glob_same hG (fun k hk => hW k (.inr hk)) hz
  have cb := hbW.cell
  have AD := address_any s hs
  have hR := rest_ups s.data.toList
  have hdn : (decide (s.data.toList ≠ [])) = !s.toList.isEmpty := by
    rw [ByteArray.toList_eq]
    cases s.data.toList <;> simp
  rw [hdn] at hR
  have hR := Lib.hid hR
  clear hdn
  generalize address s.data.toList = al at AD hR
  generalize upsF s.data.toList = U at hR ⊢
  refine callsIn_of_wp Tryd.func75 rfl trivial ?_ rfl
  simp only [Tryd.ntmps75, List.size_toArray, List.length_cons, List.length_nil, Nat.reduceAdd, Nat.reduceSub, Array.replicate_succ, Array.replicate_zero, List.push_toArray, List.append_toArray, List.nil_append, List.cons_append]
  gi_wp2
  refine ⟨trivial, ?_⟩
  refine (callsIn_wide.2 (AD _ hGW)).mono ?_
  rintro e w2 ⟨rfl, hb2⟩
  have g2 := grown_of_below hb2 none
  have hb' := hbW.kept g2 (by simp)
  have hj' := hJ _ _ _ none h0 g2 (.inl rfl)
  have cb := hb'.cell
  clear AD hGW hbW
  gi_wp2
  have hfirst : (U.map str) = ([] : List ByteArray) ++ (rest al s.data.toList (!s.toList.isEmpty)).map str := by rw [hR.out]; rfl
  have HF := Lib.hid hfirst
  clear hfirst hR cb
  generalize (!s.toList.isEmpty) = em at HF
  gi_loopw [4] (fun v wr => ∃ (pre : List ByteArray) (cur : ByteArray) (more : Bool), v = .bool more ∧ Boxed wr b 9 (.string cur) ∧ RowKit.Hid (U.map str = pre ++ (rest al cur.data.toList more).map str) ∧ (more = true → pre.length + cur.size ≤ s.size) ∧ J pre wr) (fun v wr => mu b v wr)
  case atStart => exact ⟨[], s, em, rfl, hb', HF, fun _ => by simp, hj'⟩
  case round =>
    clear hb' hj' HF hb2 g2 hb hG h0
    obtain ⟨pre, cur, more, rfl, hb, hsp, hlen, hj⟩ := hrel
    have cb := hb.cell
    cases more with
    | false =>
      have hfin : pre = U.map str := by rw [hsp.out]; simp [rest]
      clear hsp
      gi_wp2
      refine bodyPost_end (results_none rfl _ _ _) rfl ?_
      exact ⟨⟨_, rfl⟩, pre, hfin, hj⟩
    | true =>
      have hlen := hlen rfl
      have hbl := boxLen_of hb
      obtain ⟨fn, tmps, assign, body, hy, hRn⟩ := hY pre cur wr hj (by omega)
      cases al with
      | true =>
        have hfin : pre ++ [cur] = U.map str := by rw [hsp.out]; simp only [rest, cond_true, List.map_cons, List.map_nil]; rw [show str cur.data.toList = cur from mkB cur]
        clear hsp
        gi_wp2
        refine hRn.mono ?_
        rintro e W3 ⟨rfl, hj3, hk3, hz3⟩
        gi_wp2
        refine bodyPost_ret (results_none rfl _ _ _) rfl ?_
        exact ⟨⟨_, rfl⟩, pre ++ [cur], hfin, hj3⟩
      | false =>
        have CUT := fun w' => cut_any cur 46 w' (by omega)
        rcases first_at 46 cur.data.toList with h | ⟨a, r, hl, h⟩
        · rw [cut_none h] at CUT
          have hnext : U.map str = (pre ++ [cur]) ++ (rest false (str []).data.toList false).map str := by
            rw [hsp.out, rest_none h]; simp only [List.map_cons, rest, cond_false, List.map_nil, List.append_assoc, List.cons_append, List.nil_append]
            rw [show str cur.data.toList = cur from mkB cur]
          have HF := Lib.hid hnext
          have CUT := Lib.hid CUT
          clear h hnext hsp
          gi_wp2
          refine hRn.mono ?_
          rintro e W3 ⟨rfl, hj3, hk3, hz3⟩
          have hb3 := box_same hb (hk3 b (.inl rfl))
          have cb := hb3.cell
          gi_wp2
          refine ⟨trivial, ?_⟩
          refine (callsIn_wide.2 (CUT.out _)).mono ?_
          rintro e w4 ⟨rfl, hb4⟩
          have g4 := grown_of_below hb4 none
          have hb5 := hb3.kept g4 (by simp)
          have hj5 := hJ _ _ _ none hj3 g4 (.inl rfl)
          have cb := hb5.cell
          have fb := hb5.frozen
          gi_wp2
          go_roundw
          case rel => exact ⟨pre ++ [cur], str [], false, rfl, hb5.set _, HF, fun h => (by cases h), hJ _ _ _ (some b) hj5 (grownBy_setCell' _ _ _) (.inr rfl)⟩
          case measure => simp [mu]
        · have hcut : cut 46 cur.data.toList = (a, r, true) := by rw [hl]; exact cut_at h
          have hz : a.length + 1 + r.length = cur.size := by
            have : cur.data.toList.length = cur.size := by simp
            rw [hl] at this; simp at this; omega
          rw [hcut] at CUT
          have hnext : U.map str = (pre ++ [cur]) ++ (rest false (str r).data.toList true).map str := by
            rw [hsp.out, hl, rest_at h, ← hl]
            simp only [List.map_cons, List.append_assoc, List.cons_append, List.nil_append]
            rw [show str cur.data.toList = cur from mkB cur, show (str r).data.toList = r from by simp [str]]
          have HF := Lib.hid hnext
          have CUT := Lib.hid CUT
          clear h hnext hsp hl hcut
          gi_wp2
          refine hRn.mono ?_
          rintro e W3 ⟨rfl, hj3, hk3, hz3⟩
          have hb3 := box_same hb (hk3 b (.inl rfl))
          have cb := hb3.cell
          gi_wp2
          refine ⟨trivial, ?_⟩
          refine (callsIn_wide.2 (CUT.out _)).mono ?_
          rintro e w4 ⟨rfl, hb4⟩
          have g4 := grown_of_below hb4 none
          have hb5 := hb3.kept g4 (by simp)
          have hj5 := hJ _ _ _ none hj3 g4 (.inl rfl)
          have cb := hb5.cell
          have fb := hb5.frozen
          gi_wp2
          go_roundw
          case rel => exact ⟨pre ++ [cur], str r, true, rfl, hb5.set _, HF, fun _ => by rw [str_size]; simp; omega, hJ _ _ _ (some b) hj5 (grownBy_setCell' _ _ _) (.inr rfl)⟩
          case measure => simp only [mu]; rw [boxLen_of (hb5.set _), hbl, str_size]; simp; omega
set_option maxHeartbeats 1000000 in
theorem made_any (s : ByteArray) (w : World) :
    Calls Tryd.prog 54 #[.string s] w (fun e w' => e = .returned (.func (.func 75) #[] #[.pointer (some ⟨w.heap.size, 0, none⟩)]) ∧ w' = w.alloc (.cells #[.string s] 9)) := by
  go_enter Tryd.func54, Tryd.ntmps54
  go_wp2_with fail
  go_ret
  exact ⟨rfl, rfl⟩
open WordR (own_lower own_far info_str) in
set_option maxRecDepth 100000 in
set_option maxHeartbeats 4000000 in
/-- What an iterator hands out, collected. -/
theorem appendSeq_any (gf : Nat) (lb : Array Value) (b : Nat) (K : Nat → Prop) (L : List ByteArray) (m : Nat) (w : World) (hb : K b) (hK : ∀ k, K k → k < w.heap.size) (hm : m ≤ 4398046511105) (eg : ∀ args w, (callFunc gf args).run Tryd.prog w = .ok (.enter gf args) w)
    (hseq : ∀ n, 1 ≤ n → ∀ W : World, (∀ k, K k → W.heap[k]? = w.heap[k]?) → w.heap.size ≤ W.heap.size → Hands Fence.wide n Tryd.prog gf lb (fun x : ByteArray => #[Value.string x]) b K (fun xs => xs = L) m W) :
    Calls Tryd.prog 74 #[.slice none 0 0, .func (.func gf) #[] lb] w (fun e w' => ∃ v, e = .returned v ∧ w'.ownsRow w.heap.size 9 1 v L.length (L.map Value.string) ∧ (∀ k, k < w.heap.size → k ≠ b → w'.heap[k]? = w.heap[k]?) ∧ w'.os = w.os ∧ w'.tape = w.tape ∧ w'.output = w.output ∧ w.heap.size ≤ w'.heap.size) := by
  refine (callsIn_wide (n := 3)).1 ?_
  obtain ⟨i0, hi, hz0, hz1, hz2⟩ := info_parts info_str
  refine callsIn_of_wp_marks Tryd.func74 rfl trivial ?_ rfl
  simp only [Tryd.ntmps74, List.size_toArray, List.length_cons, List.length_nil, Nat.reduceAdd, Nat.reduceSub, Array.replicate_succ, Array.replicate_zero, List.push_toArray, List.append_toArray, List.nil_append, List.cons_append]
  have bO := Boxed.new w 37 (.slice none 0 0)
  have hB0 : w.grownBy (w.alloc (.cells #[.slice none 0 0] 37)) (some b) := World.grownBy_alloc w _ _
  have hz : (w.alloc (.cells #[.slice none 0 0] 37)).heap.size = w.heap.size + 1 := by simp
  gi_wp2
  have hKW : ∀ k, K k → (w.alloc (.cells #[.slice none 0 0] 37)).heap[k]? = w.heap[k]? := fun k hk => Below.heap_alloc _ _ _ (hK k hk)
  generalize (w.alloc (.cells #[.slice none 0 0] 37)) = W0 at bO hB0 hz hKW ⊢
  have hbz := hK b hb
  refine range_hands rfl (by omega) (gf := gf) (lb := lb) rfl trivial eg (K := K) hb (fun k hk => by have := hK k hk; omega)
    (hseq _ (by omega) W0 hKW hB0.size) (fun _ => rfl)
    (fun pre W => (∃ v, Boxed W w.heap.size 37 v ∧ W.ownsRow (w.heap.size + 1) 9 1 v pre.length (pre.map Value.string)) ∧ w.grownBy W (some b)) ?hI ?h0
    (fun x => { tmps := #[.slice none 0 0, .func (.func gf) #[] lb, .pointer (some ⟨w.heap.size, 0, none⟩), undef, .slice none 0 0, .string x, .func (.func gf) #[] lb, .string x, undef, undef, undef, undef, undef], defers := [] }) ?assign ?body ?done
  case hI =>
    rintro xs W W' row ⟨⟨v, hv, hr⟩, hB⟩ hg hrow
    refine ⟨⟨v, hv.kept hg (fun e => ?_), hr.kept hg ?_⟩, ?_⟩
    · rcases hrow _ e.symm with h | ⟨h, _⟩ <;> omega
    · cases row with
      | none =>
        by_cases h : v.ownBlock = none
        · exact .inl h
        · exact .inr h
      | some r =>
        refine .inr (fun e => ?_)
        rcases hrow r rfl with h | ⟨h, o, ho, hc⟩
        · exact own_far hr (by omega) e
        · rcases hr.2 with ⟨rfl, _⟩ | ⟨g, cap, cur, rfl, e2, e3, _⟩
          · simp [Value.ownBlock] at e
          · obtain rfl : g = r := by simpa [Value.ownBlock] using e
            rw [e3] at ho; cases ho; cases hc
    · refine ⟨hg.os.trans hB.os, hg.tape.trans hB.tape, hg.output.trans hB.output, Nat.le_trans hB.size hg.size, fun k hk hne => (hg.block k (Nat.lt_of_lt_of_le hk hB.size) fun e => ?_).trans (hB.block k hk hne)⟩
      rcases hrow k e.symm with h | ⟨h, _⟩
      · exact hne (by rw [h])
      · omega
  case h0 => exact ⟨⟨_, bO, World.ownsRow_nil _ _ _ _⟩, hB0⟩
  case assign =>
    intro l x W K hK
    gi_wp2
    exact hK
  case body =>
    rintro l pre x W ⟨⟨v, hv, hrow⟩, hB⟩ hlt hsz
    have hc := hv.cell
    have hw := hB.size
    have hml : pre.length + 1 ≤ maxLen := by unfold maxLen; omega
    have hbd : (pre.length + 1) * 16 ≤ 140737488355328 := by omega
    gi_wp2_with (gi_at_builtin; refine wpListIn_append_own _ rfl _ _ 37 rfl (w.heap.size + 1) 9 i0 (.string ⟨#[]⟩) 1 16 Tryd.underlying37 hi hz0 hz1 hz2 rfl (by decide) _ _ _ rfl (hrow.alloc _) ⟨W.heap.size, 0, none⟩ 1 1 [.string x] rfl rfl (cell_one_new _ _ _) (by simp [Value.oneCell']) hml hbd (by simp; omega) ?_; intro v' w1 hown' hgrow _; obtain ⟨g', cap', rfl⟩ := ownsRow_succ hown'; obtain ⟨hv1, hv2, hr2, hk2, hb2⟩ := hv.appended (by decide) (own_lower (a := w.heap.size) hrow (by omega)) hB.size (Nat.le_refl _) (own_lower hown' (by omega)) hgrow; have hc1 := hv1.cell; have hf1 := hv1.frozen)
    exact ⟨hk2, fun k hk => hb2.block k (hK k hk), ⟨_, hv2, by simpa using hown'.kept (grownBy_setCell' w1 _ _) (.inr (hv1.not_row (by decide) hown').symm)⟩, ⟨hb2.os.trans hB.os, hb2.tape.trans hB.tape, hb2.output.trans hB.output, Nat.le_trans hw hb2.size, fun k hk hne => (hb2.block k hk).trans (hB.block k hk hne)⟩⟩
  case done =>
    rintro D ys W hD hys ⟨⟨v, hv, hrow⟩, hB⟩ hK
    have hc := hv.cell
    gi_wp2
    refine ⟨by simp, .inl ⟨_, _, rfl, run_takeDeferred hK, ?_⟩⟩
    refine ⟨_, results_tmp rfl _ _ _, v, rfl, ?_, ?_⟩
    · have hr := ownsRow_putObj (own_lower (a := w.heap.size) hrow (by omega)) (.deferred none) hK rfl
      rw [hys] at hr
      simpa using hr
    · exact ⟨fun k hk hne => (World.putObj_heap_other (by omega)).trans (hB.block k hk (fun e => hne (by simpa using e))), hB.os, hB.tape, hB.output, by simpa using hB.size⟩
set_option maxRecDepth 100000 in
set_option maxHeartbeats 1000000 in
theorem collect_any (gf : Nat) (lb : Array Value) (b : Nat) (K : Nat → Prop) (L : List ByteArray) (m : Nat) (w : World) (hb : K b) (hK : ∀ k, K k → k < w.heap.size) (hm : m ≤ 4398046511105) (eg : ∀ args w, (callFunc gf args).run Tryd.prog w = .ok (.enter gf args) w)
    (hseq : ∀ n, 1 ≤ n → ∀ W : World, (∀ k, K k → W.heap[k]? = w.heap[k]?) → w.heap.size ≤ W.heap.size → Hands Fence.wide n Tryd.prog gf lb (fun x : ByteArray => #[Value.string x]) b K (fun xs => xs = L) m W) :
    Calls Tryd.prog 53 #[.func (.func gf) #[] lb] w (fun e w' => ∃ v, e = .returned v ∧ w'.ownsRow w.heap.size 9 1 v L.length (L.map Value.string) ∧ (∀ k, k < w.heap.size → k ≠ b → w'.heap[k]? = w.heap[k]?) ∧ w'.os = w.os ∧ w'.tape = w.tape ∧ w'.output = w.output ∧ w.heap.size ≤ w'.heap.size) := by
  have AS := appendSeq_any gf lb b K L m w hb hK hm eg hseq
  clear hseq
  go_enter Tryd.func53, Tryd.ntmps53
  go_wp2_with fail
  with_reducible refine AS.mono ?_
  rintro e w' ⟨v, rfl, h2⟩
  go_wp2_with fail
  go_ret
  exact ⟨_, rfl, h2⟩
set_option maxRecDepth 100000 in
set_option maxHeartbeats 1000000 in
theorem ups_any (s : ByteArray) (hs : s.size ≤ 4398046511104) (w : World) (hG : Abs.GlOk gStr (fun _ => False) w) : Calls Tryd.prog 27 #[.string s] w (GivesRow w.heap.size 9 (upsF s.data.toList).length (((upsF s.data.toList).map str).map Value.string) w) := by
  have hgn : gN ≤ w.heap.size := hG.1
  have hi : ∀ n, 1 ≤ n → ∀ W : World, (∀ k, (k = w.heap.size ∨ k < gN) → W.heap[k]? = (w.alloc (.cells #[.string s] 9)).heap[k]?) → (w.alloc (.cells #[.string s] 9)).heap.size ≤ W.heap.size → Hands Fence.wide n Tryd.prog 75 #[.pointer (some ⟨w.heap.size, 0, none⟩)] (fun x : ByteArray => #[Value.string x]) w.heap.size (fun k => k = w.heap.size ∨ k < gN) (fun xs => xs = (upsF s.data.toList).map str) (s.size + 1) W := fun n hn W hW hz => by
    refine iter_hands w.heap.size hgn s W hs ?_ n hn ?_
    · refine glob_same hG (fun k hk => (hW k (.inr hk)).trans (Below.heap_alloc _ _ _ (by omega))) (by simp at hz; omega)
    · exact box_same (Boxed.new w 9 (.string s)) (hW _ (.inl rfl))
  have CO := collect_any 75 #[.pointer (some ⟨w.heap.size, 0, none⟩)] w.heap.size (fun k => k = w.heap.size ∨ k < gN) ((upsF s.data.toList).map str) (s.size + 1) (w.alloc (.cells #[.string s] 9)) (.inl rfl) (fun k hk => by simp; omega) (by omega) (enters_of Tryd.func75 (by kernel_rfl) rfl) hi
  clear hi
  go_enter Tryd.func27, Tryd.ntmps27
  go_wp2_with fail
  with_reducible refine (made_any s _).mono ?_
  rintro e w1 ⟨rfl, rfl⟩
  go_wp2_with fail
  with_reducible refine CO.mono ?_
  rintro e w' ⟨v, rfl, h2, h3, h4, h5, h6, h7⟩
  go_wp2_with fail
  go_ret
  have hz : (w.alloc (.cells #[.string s] 9)).heap.size = w.heap.size + 1 := by simp
  rw [hz] at h2 h3 h7
  refine ⟨_, rfl, WordR.own_lower (a := w.heap.size) (by simpa using h2) (by omega), ⟨h4, h5, h6, by omega, fun k hk => (h3 k (by omega) (by omega)).trans (Below.heap_alloc _ _ _ hk)⟩⟩
open Abs TreeW in
theorem ups_v {l : List UInt8} (hl : l.length ≤ 4398046511104) : ACallsG Tryd.prog gStr 27 [strT l] (strsT (upsF l)) := fun N w vs hG hN hlen hv => by
  obtain ⟨vs⟩ := vs
  match vs, hlen with
  | [x0], _ =>
    obtain ⟨rfl, h0⟩ := fz_str (hv 0 _ x0 rfl rfl)
    refine (ups_any _ (by rw [Abs.str_size]; exact hl) w (hG.sub fun _ h => h.elim)).mono fun e w' ⟨v, h1, h2, h3⟩ => ⟨_, h1, h3, ?_⟩
    rw [str_toList, List.map_map] at h2
    have hle := after_len l
    have hml : ∀ x ∈ upsF l, x.length ≤ l.length := fun x hx => by
      unfold upsF at hx
      split at hx
      · cases hx
      · split at hx
        · rw [List.mem_singleton] at hx; rw [hx]; exact Nat.le_refl _
        · rcases List.mem_cons.1 hx with rfl | hx
          · exact Nat.le_refl _
          · obtain ⟨y, rfl⟩ := (mem_after x l).1 hx
            simp; omega
    refine fz_strs hN ?_ (fun x hx => ?_) h2
    · unfold upsF
      split
      · simp [LIM]
      · split
        · simp [LIM]
        · simp only [List.length_cons, LIM]; omega
    · have := hml x hx; simp only [SLIM]; omega
end Go.Proofs.YtkgdkpiacencjaaDoor.HostE
