/- Texts of the proof, joined: WordQ, TreeW, Glob, HostP, HostO, FnB, HostA, HostB. -/
import Derived.Test.YtoehdmbogdpncaaGreatDoorG15
import Derived.Test.YtoehdmbogdpncaaGreatDoorG7
import Derived.Test.YtoehdmbogdpncaaGreatDoorG6
import Derived.Lib.LaidTab
import Derived.Lib.ItoaLen
import Derived.Lib.AppendIntMem
import Derived.Test.YtoehdmbogdpncaaGreatDoorG14
import Derived.Lib.AtoiAll
import Derived.Lib.ItoaNum
import Derived.Test.YtoehdmbogdpncaaGreatDoorG8
section
namespace Go.Proofs.YtoehdmbogdpncaaGreatDoor.WordQ
open Go.RowKit Mem WordP OneB WordW WordS WordJ
open WordC (ext_drop ext_take)

theorem elemStr : Elem Tryz.prog 94 9 1 16 := Elem.mk (z := .string ⟨#[]⟩) Tryz.underlying94 (by kernel_rfl) rfl (by decide)
theorem own_lower {w : World} {a b : Nat} {e : TypeId} {size n : Nat} {v : Value} {xs : List Value} (h : w.ownsRow b e size v n xs) (hab : a ≤ b) : w.ownsRow a e size v n xs := WordR.own_lower h hab
set_option maxRecDepth 100000 in
set_option maxHeartbeats 4000000 in
theorem partsOf_any (u : UInt8) : ∀ (n : Nat) (s : ByteArray), s.size < n → s.size ≤ 4398046511104 → ∀ w : World,
    Calls Tryz.prog 92 #[.string s, .int .u8 u.toNat] w (GivesRow w.heap.size 9 (split u s.data.toList).length (strs ((split u s.data.toList).map str)) w) := by
  intro n
  induction n with
  | zero => intro s hn; omega
  | succ n ih =>
    intro s hn hs w
    have IH := Lib.hid ih
    clear ih
    go_enter Tryz.func92, Tryz.ntmps92
    go_wp2_with fail
    go_loopw [5] (fun i wr => ∃ k : Nat, k ≤ s.size ∧ i = .int .i64 ((k : Int) - 1) ∧ (s.data.toList.drop k).contains u = false ∧ Below w.heap.size w wr) (fun i _ => (intOf i + 1).toNat)
    case atStart => exact ⟨s.size, Nat.le_refl _, rfl, by rw [List.drop_of_length_le (by simp)]; rfl, Below.refl _ _⟩
    case round =>
      obtain ⟨k, hk, rfl, hct, hb⟩ := hrel
      have HC := Lib.hid hct
      clear hct
      by_cases hlt : 0 < k
      · have hd := drop_consB s (k - 1) (by omega)
        rw [show k - 1 + 1 = k from by omega] at hd
        have hi1 : ((k : Int) - 1) = ((k - 1 : Nat) : Int) := by omega
        rw [hi1]
        have hw0 : (0 : Int) ≤ ((k - 1 : Nat) : Int) := by omega
        have hw1 : ((k - 1 : Nat) : Int) < (s.size : Int) := by omega
        have hw2 : ((k - 1 : Nat) : Int) ≤ (s.size : Int) := by omega
        have hw3 : ((k - 1 : Nat) : Int) + 1 ≤ (s.size : Int) := by omega
        have hwr : IntKind.i64.wrap (((k - 1 : Nat) : Int) + 1) = (k : Int) := by rw [IntWalk.i64_in _ (by omega)]; omega
        have hw4 : (k : Int) ≤ (s.size : Int) := by omega
        have hw5 : (0 : Int) ≤ (k : Int) := by omega
        have HD := Lib.hid hd
        clear hd
        by_cases heq : s[k - 1] = u
        · have e1 : ((s[k - 1].toNat : Int) == (u.toNat : Int)) = true := by rw [heq]; simp
          have hsp : split u s.data.toList = split u (s.data.toList.take (k - 1)) ++ [s.data.toList.drop k] := by
            have e := split_mid u (s.data.toList.take (k - 1)) (s.data.toList.drop k)
            rw [split_none u _ HC.out, ← heq, ← HD.out, List.take_append_drop] at e
            rw [← heq]; exact e
          have ht1 : s.extract 0 (k - 1) = str (s.data.toList.take (k - 1)) := ext_take s (k - 1)
          have ht2 : s.extract k s.size = str (s.data.toList.drop k) := ext_drop s k
          have hl1 : (split u (s.data.toList.take (k - 1))).length ≤ k := by
            have := split_len u (s.data.toList.take (k - 1))
            simp at this; omega
          have HI := fun w' => IH.out (str (s.data.toList.take (k - 1))) (by rw [str_size]; simp; omega) (by rw [str_size]; simp; omega) w'
          have hdt : (str (s.data.toList.take (k - 1))).data.toList = s.data.toList.take (k - 1) := by simp [str]
          rw [hdt] at HI
          have HSP := Lib.hid hsp; have HT2 := Lib.hid ht2
          have HI := Lib.hid HI
          clear hsp ht2 hdt
          generalize split u (s.data.toList.take (k - 1)) = L1 at HI HSP hl1
          go_wp2_with fail
          refine Seq.region_part (S := fun w' => Below w.heap.size w w') [(0, false), (1, false), (2, false), (3, false), (5, false), (6, false), (7, false), (8, false)] #[true, true, true, true, false, true, true, true, true, false, false, false] 4
            (by kernel_rfl) (by kernel_rfl) (fun _ _ d _ _ h => by cases d <;> exact h) hb.drew ?_
          simp only [Seq.lay, List.getElem?_cons_zero, List.getElem?_cons_succ]
          repeat (first
            | (refine Seq.seq_read (v := ?_) (by rfl) ?_ ?_
               rotate_left
               · (intro w' hS; go_simp; with_reducible rfl)
               simp only [Act.put, List.setIfInBounds_toArray, List.set_cons_zero, List.set_cons_succ]))
          refine Seq.seq_nil ?_
          refine Seq.either 4 9 _ _ (by kernel_rfl) rfl rfl (by rfl) (by rfl) (fun K hK => ?_) (fun K hK => ?_)
          · go_simp
            refine (HI.out _).mono ?_
            rintro e w1 ⟨v1, rfl, o1, hb1⟩
            have S1 := below_cat hb.drew hb1
            refine hK _ _ S1 ?_
            clear hK K
            refine Seq.on_seq [(9, true), (10, true), (11, false)] (by kernel_rfl) (fun _ _ d _ _ h => by cases d <;> exact h) S1 ?_
            simp only [Seq.lay, List.getElem?_cons_zero, List.getElem?_cons_succ]
            refine Seq.seq_do (by rfl) (fun K hK => ?_)
            go_simp
            have S2 := below_new S1 (.cells #[.string (s.extract k s.size)] 9)
            refine hK _ _ S2 ?_
            clear hK K
            have ow := own_lower (a := w.heap.size) o1 hb.size
            refine Seq.seq_do (by rfl) (fun K hK => ?_)
            refine wp_app elemStr (.tmp 22) (.tmp 27) rfl w.heap.size _ _ _ rfl (ow.alloc _) (some ⟨w1.heap.size, 0, none⟩) 1 1 [.string (s.extract k s.size)] (w1.heap.size + 1) rfl rfl (Row.lit w1 _ _ _ (by omega)) (by simp [Value.oneCell']) (fun e => by cases e) (by omega) (by omega) S2.size ?_
            intro v3 w3 o3 g3
            have S3 : Below w.heap.size w w3 := S2.grown g3 S2.size (fun j e => (ow.lt j e).1)
            refine hK _ _ S3 ?_
            clear hK K
            refine Seq.seq_read (v := ?_) (by rfl) ?_ ?_
            rotate_left
            · (intro w' hS; go_simp; with_reducible rfl)
            simp only [Act.put, List.setIfInBounds_toArray, List.set_cons_zero, List.set_cons_succ]
            refine Seq.seq_nil ?_
            go_wp2_with fail
            go_ret
            refine ⟨_, rfl, ?_, S3⟩
            rw [HSP.out]
            have e : strs ((L1 ++ [s.data.toList.drop k]).map str) = strs (L1.map str) ++ [.string (s.extract k s.size)] := by simp [strs, HT2.out]
            rw [e, List.length_append]
            exact o3
          · go_simp
            have S1 := (below_new hb (.cells #[.string (s.extract k s.size)] 9)).drew
            refine hK _ _ S1 ?_
            clear hK K
            refine Seq.on_seq [(4, true), (10, true), (11, false)] (by kernel_rfl) (fun _ _ d _ _ h => by cases d <;> exact h) S1 ?_
            simp only [Seq.lay, List.getElem?_cons_zero, List.getElem?_cons_succ]
            refine Seq.seq_do (by rfl) (fun K hK => ?_)
            go_simp
            refine (HI.out _).mono ?_
            rintro e w1 ⟨v1, rfl, o1, hb1⟩
            have S2 := below_cat S1 hb1
            refine hK _ _ S2 ?_
            clear hK K
            have ow := own_lower (a := w.heap.size) o1 S1.size
            have hrow := Row.lit wr 9 [.string (s.extract k s.size)] ((wr.alloc (.cells #[.string (s.extract k s.size)] 9)).drew.heap.size) (by simp)
            have hrow := Row.at' (w := (wr.alloc (.cells #[.string (s.extract k s.size)] 9)).drew) hrow hb1
            refine Seq.seq_do (by rfl) (fun K hK => ?_)
            refine wp_app elemStr (.tmp 22) (.tmp 27) rfl w.heap.size _ _ _ rfl ow (some ⟨wr.heap.size, 0, none⟩) 1 1 [.string (s.extract k s.size)] _ rfl rfl hrow (by simp [Value.oneCell']) (fun e => by cases e) (by omega) (by omega) S2.size ?_
            intro v3 w3 o3 g3
            have S3 : Below w.heap.size w w3 := S2.grown g3 S2.size (fun j e => (ow.lt j e).1)
            refine hK _ _ S3 ?_
            clear hK K
            refine Seq.seq_read (v := ?_) (by rfl) ?_ ?_
            rotate_left
            · (intro w' hS; go_simp; with_reducible rfl)
            simp only [Act.put, List.setIfInBounds_toArray, List.set_cons_zero, List.set_cons_succ]
            refine Seq.seq_nil ?_
            go_wp2_with fail
            go_ret
            refine ⟨_, rfl, ?_, S3⟩
            rw [HSP.out]
            have e : strs ((L1 ++ [s.data.toList.drop k]).map str) = strs (L1.map str) ++ [.string (s.extract k s.size)] := by simp [strs, HT2.out]
            rw [e, List.length_append]
            exact o3
        · have e1 : ((s[k - 1].toNat : Int) == (u.toNat : Int)) = false := by simp; intro h; exact heq (UInt8.toNat_inj.1 (by omega))
          have hc0 : (s.data.toList.drop (k - 1)).contains u = false := by
            rw [HD.out, List.contains_cons, HC.out]; simpa using fun e => heq e.symm
          have HC0 := Lib.hid hc0
          clear hc0
          go_wp2_with fail
          go_roundw
          case rel => exact ⟨k - 1, by omega, by go_num, HC0.out, hb⟩
          case measure => simp [intOf]
      · obtain rfl : k = 0 := by omega
        have hct := HC.out
        rw [List.drop_zero] at hct
        have hsp := split_none u _ hct
        have hst : str s.data.toList = s := mkB s
        have HS := Lib.hid hsp
        have HT := Lib.hid hst
        clear hct hsp hst
        go_wp2_with fail
        go_ret
        rw [HS.out]
        refine ⟨_, rfl, ?_, hb.alloc hb.size _⟩
        have ho := World.ownsRow_lit (base := w.heap.size) (e := 9) (size := 1) wr #[.string s] 1 hb.size (by decide) rfl
        have e : strs ([s.data.toList].map str) = [.string s] := by simp [strs, HT.out]
        rw [e]
        exact ho
end Go.Proofs.YtoehdmbogdpncaaGreatDoor.WordQ
end

section
namespace Go.Proofs.YtoehdmbogdpncaaGreatDoor.TreeW
open Go.RowKit Mem Abs WordP OneB WordS

theorem fz_strs {X : Nat → Prop} {w : World} {L : List (List UInt8)} {base T : Nat} {v : Value} (hX : ∀ b, X b → b < base) (hl : L.length ≤ LIM) (hs : ∀ l ∈ L, l.length ≤ SLIM) (h : w.ownsRow base T 1 v L.length (L.map fun l => Value.string (str l))) : Fz X w (strsT L) v :=
  owns_fz (f := strT) (g := fun l => Value.string (str l)) (fun _ => rfl) (fun _ => rfl) (fun l hl => .str (by rw [str_size]; exact hs l hl)) hX hl h
theorem str_lim {l : List UInt8} {r : List Abs.V} (h : V.LimL (strT l :: r)) : l.length ≤ 4611686018427387904 ∧ V.LimL r := by
  have := h.1
  rw [V.Lim, str_size] at this
  exact ⟨this, h.2⟩
section
variable {l m : List UInt8} {u c : UInt8} {L K : List (List UInt8)}
theorem one_str {f : FuncId} {r : Abs.V} {rv : ByteArray → Value} (h : ∀ (s : ByteArray) w, s.size ≤ 4611686018427387904 → Calls Tryz.prog f #[.string s] w (Gives (rv s) w)) (hr : ∀ N w, l.length ≤ SLIM → Fz N w r (rv (str l))) : ACalls Tryz.prog f [strT l] r := fun g N w vs hG hN hlen hv => by
  obtain ⟨vs⟩ := vs
  match vs, hlen with
  | [x0], _ =>
    obtain ⟨rfl, h0⟩ := fz_str (hv 0 _ x0 rfl rfl)
    exact (h _ w h0).mono fun e w' ⟨h1, h2⟩ => ⟨_, h1, h2, hr N w' (by rw [str_size] at h0; exact h0)⟩
theorem two_str {f : FuncId} {r : Abs.V} {rv : ByteArray → Value} (h : ∀ (s : ByteArray) w, s.size ≤ 4611686018427387904 → Calls Tryz.prog f #[.string s, .int .u8 c.toNat] w (Gives (rv s) w)) (hr : ∀ N w, l.length ≤ SLIM → Fz N w r (rv (str l))) : ACalls Tryz.prog f [strT l, byteT c] r := fun g N w vs hG hN hlen hv => by
  obtain ⟨vs⟩ := vs
  match vs, hlen with
  | [x0, x1], _ =>
    obtain ⟨rfl, h0⟩ := fz_str (hv 0 _ x0 rfl rfl)
    obtain ⟨rfl, _⟩ := fz_int (hv 1 _ x1 rfl rfl)
    exact (h _ w h0).mono fun e w' ⟨h1, h2⟩ => ⟨_, h1, h2, hr N w' (by rw [str_size] at h0; exact h0)⟩
theorem fold_len (l : List UInt8) : (fold l).length = l.length := by simp [fold]
theorem fold_v : ACalls Tryz.prog 84 [strT l] (strT (fold l)) := one_str (rv := fun s => .string (str (fold s.data.toList))) (fun s w hs => WordW.fold_any s w hs) fun N w h => by rw [str_toList]; exact .str (by rw [str_size, fold_len]; exact h)
theorem foldOf_v : ACalls Tryz.prog 91 [strT l] (strT (fold l)) := one_str (rv := fun s => .string (str (fold s.data.toList))) (fun s w hs => WordV.foldOf_any s w hs) fun N w h => by rw [str_toList]; exact .str (by rw [str_size, fold_len]; exact h)
/-- Where a byte stands; -1: nowhere. -/
abbrev posB (c : UInt8) (l : List UInt8) : Int := Lib.indexByte l c
theorem pos_in (c : UInt8) (l : List UInt8) : -1 ≤ posB c l ∧ (posB c l < l.length) := by
  rcases first_at c l with h | ⟨a, r, rfl, h⟩
  · rw [posB, index_none l c h]; omega
  · rw [posB, index_at a r c h]; simp; omega
theorem pos_none {c : UInt8} {l : List UInt8} : posB c l < 0 ↔ l.contains c = false := by
  have := index_ge l c
  by_cases h : l.contains c = true
  · rw [h, decide_eq_true_eq] at this
    simp [posB]; constructor
    · intro h2; omega
    · intro h2; simp at h; exact absurd h h2
  · simp only [Bool.not_eq_true] at h
    rw [h, decide_eq_false_iff_not] at this
    simp only [posB, h, iff_true]; omega
theorem split_in (_h : ∀ x ∈ split u l, True) : ∀ x ∈ split u l, x.length ≤ l.length := by
  clear _h
  suffices H : ∀ (n : Nat) (l : List UInt8), l.length ≤ n → ∀ x ∈ split u l, x.length ≤ l.length from H l.length l (Nat.le_refl _)
  intro n
  induction n with
  | zero =>
    intro l hl x hx
    have : l = [] := List.eq_nil_of_length_eq_zero (by omega)
    subst this
    rw [split_none _ _ rfl, List.mem_singleton] at hx
    subst hx; exact Nat.le_refl _
  | succ n ih =>
    intro l hl x hx
    rcases first_at u l with h | ⟨a, r, rfl, h⟩
    · rw [split_none _ _ h, List.mem_singleton] at hx
      subst hx; exact Nat.le_refl _
    · rw [split_app _ _ _ h] at hx
      simp only [List.length_append, List.length_cons] at hl ⊢
      rcases List.mem_cons.1 hx with rfl | hx
      · omega
      · have := ih r (by omega) x hx; omega
theorem placeOf_v : ACalls Tryz.prog 66 [strT l, byteT c] (.int .i64 (posB c l)) := two_str (rv := fun s => .int .i64 (Lib.indexByte s.data.toList c)) (fun s w hs => WordV.placeOf_any s c w hs) fun N w h => by
  rw [str_toList]
  have := pos_in c l
  simp only [SLIM] at h
  exact .int ⟨by simp only [rng, posB] at *; omega, by simp only [rng, posB] at *; omega⟩
/-- Cut at the first such byte. -/
def cutF (c : UInt8) (l : List UInt8) : List UInt8 × List UInt8 × Bool := if l.contains c then (l.take (posB c l).toNat, l.drop ((posB c l).toNat + 1), true) else (l, [], false)
theorem shut_parts {f : FuncId} (hl : l.length ≤ 4398046511104) (h : ∀ (s : ByteArray) w, s.size ≤ 4398046511104 → Calls Tryz.prog f #[.string s, .int .u8 u.toNat] w (GivesRow w.heap.size 9 (split u s.data.toList).length (((split u s.data.toList).map str).map Value.string) w)) : ACalls Tryz.prog f [strT l, byteT u] (strsT (split u l)) := fun g N w vs hG hN hlen hv => by
  obtain ⟨vs⟩ := vs
  match vs, hlen with
  | [x0, x1], _ =>
    obtain ⟨rfl, h0⟩ := fz_str (hv 0 _ x0 rfl rfl)
    obtain ⟨rfl, _⟩ := fz_int (hv 1 _ x1 rfl rfl)
    refine (h _ w (by rw [str_size]; exact hl)).mono fun e w' ⟨v, h1, h2, h3⟩ => ⟨_, h1, h3, ?_⟩
    rw [str_toList, List.map_map] at h2
    refine fz_strs hN ?_ (fun x hx => ?_) h2
    · have := split_len u l; simp only [LIM]; omega
    · have := split_in (u := u) (l := l) (fun _ _ => trivial) x hx; simp only [SLIM]; omega
theorem parts_v (hl : l.length ≤ 4398046511104) : ACalls Tryz.prog 85 [strT l, byteT u] (strsT (split u l)) := shut_parts hl fun s w hs => WordR.parts_any s u w hs
theorem partsOf_v (hl : l.length ≤ 4398046511104) : ACalls Tryz.prog 92 [strT l, byteT u] (strsT (split u l)) := shut_parts hl fun s w hs => WordQ.partsOf_any u (s.size + 1) s (Nat.lt_succ_self _) hs w
end
end Go.Proofs.YtoehdmbogdpncaaGreatDoor.TreeW
end

section
namespace Go.Proofs.YtoehdmbogdpncaaGreatDoor.Globs
open Go.RowKit Mem Abs TreeW

def Cells (f : Nat → Option Obj) (g : Nat) (cs : Array Value) : Prop := ∃ t fr, f g = some (.cells cs t fr)
def gN : Nat := max (max 1 2) 3 + 1
/-- strconv's two errors are errors; its table of powers is that. -/
def gStr : Glob := ⟨gN, fun f => (∃ v : Value, (v = .nilIface ∨ ∃ t p, v = .iface t p) ∧ Cells f 1 #[v]) ∧ (∃ v : Value, (v = .nilIface ∨ ∃ t p, v = .iface t p) ∧ Cells f 2 #[v]) ∧ Cells f 3 (Lib.pow10Tab.map fun z => Value.int .u64 z).toArray⟩
section
variable {X : Nat → Prop} {w : World} {l : List UInt8}
theorem at_cell {g : Nat} {cs : Array Value} (hg : g < gN) (h : Cells (fun i => if i < gN then w.heap[i]? else none) g cs) (i : Nat) : w.cell? ⟨g, i, none⟩ = cs[i]? := by
  obtain ⟨t, fr, h⟩ := h
  simp only [hg, if_true] at h
  unfold World.cell?
  simp only [h]
  rfl
theorem tab_is (h : GlOk gStr X w) : Lib.TabIs Tryz.prog w "internal/strconv.uint64pow10" .u64 Lib.pow10Tab := by
  obtain ⟨_, _, _, _, t, fr, h⟩ := h
  have e : Tryz.prog.globalNamed "internal/strconv.uint64pow10" = some 3 := by kernel_rfl
  unfold Lib.TabIs World.var?
  rw [e]
  have h : w.heap[3]? = _ := h
  simp only [Option.bind_some, h]
/-- A number's digits, and no others. -/
abbrev digits (n : Int) : List UInt8 := Lib.itoa n
theorem digits_len (n : Int) (h : InR .i64 n) : (digits n).length ≤ 21 := Lib.itoa_length_le n h.1 h.2
theorem itoa_v {n : Int} : ACallsG Tryz.prog gStr 96 [.int .i64 n] (strT (digits n)) := fun N w vs hG hN hlen hv => by
  obtain ⟨vs⟩ := vs
  match vs, hlen with
  | [x0], _ =>
    obtain ⟨rfl, h0⟩ := fz_int (hv 0 _ x0 rfl rfl)
    have h1 : -9223372036854775808 ≤ n ∧ n ≤ 9223372036854775807 := h0
    refine (Tryz.strconv_Itoa n h1.1 h1.2 w (tab_is hG)).mono fun e w' ⟨h2, k, os, h3⟩ => ⟨_, h2, ?_, .str ?_⟩
    · rw [h3]; exact Lib.below_grow _ _ (Nat.le_refl _) _ _
    · rw [str_size]; have := digits_len n h0; simp only [SLIM]; omega
/-- Atoi: the number, and whether there is one. -/
def atoiF (l : List UInt8) : Int × Bool := match Lib.atoiAll l with
  | .ok v => (v, true)
  | .range => (Lib.atoiSat l, false)
  | _ => (0, false)
/-- An error, or none. -/
def errT : Bool → Abs.V
  | true => .nili
  | false => .ifc 122 (.fp [] 0)
theorem atoi_in {v : Int} (h : Lib.atoiAll l = .ok v) : InR .i64 v := by
  unfold Lib.atoiAll at h
  split at h
  · cases h
  · dsimp only at h
    split at h
    · cases h
    · cases h
    · split at h
      · cases h
      · split at h
        · cases h
        · cases h
          constructor <;> simp only [rng] <;> split <;> omega
theorem sat_in (l : List UInt8) : InR .i64 (Lib.atoiSat l) := by
  unfold Lib.atoiSat
  split <;> exact ⟨by decide, by decide⟩
theorem atoi_v (hl : l.length ≤ 281474976710656) : ACallsG Tryz.prog gStr 95 [strT l] (.tup [.int .i64 (atoiF l).1, errT (atoiF l).2]) := fun N w vs hG hN hlen hv => by
  obtain ⟨vs⟩ := vs
  match vs, hlen with
  | [x0], _ =>
    obtain ⟨rfl, h0⟩ := fz_str (hv 0 _ x0 rfl rfl)
    obtain ⟨g1, g2, ⟨v1, i1, k1⟩, ⟨v2, i2, k2⟩, _⟩ := hG
    have sz : (str l).size ≤ 281474976710656 := by rw [str_size]; exact hl
    have two : ∀ {w' : World} {a b : Abs.V} {x y : Value}, Fz N w' a x → Fz N w' b y → Fz N w' (.tup [a, b]) (.tuple #[x, y]) := fun ha hb => .tup rfl fun i x c hx hc => by
      have hi : i < 2 := (List.getElem?_eq_some_iff.1 hx).1
      have : i = 0 ∨ i = 1 := by omega
      rcases this with rfl | rfl <;> (cases hx; cases hc)
      · exact ha
      · exact hb
    have far : ∀ {w' : World} {M : Nat} {o : Obj}, w.heap.size ≤ M → w'.heap[M]? = some o → Fz N w' (errT false) (.iface 122 (.pointer (some ⟨M, 0, none⟩))) := fun {w' M o} h1 h2 =>
      .ifc (.fp (cs := []) (o := 0) (fun _ => undef) (fun hx => by have := hN M hx; omega) (block_lt h2) (fun u hu => by cases hu) (fun j u hu => by simp at hu) (fun j u hu => by simp at hu))
    unfold atoiF
    rcases he : Lib.atoiAll l with v | _ | _
    · refine (Tryz.strconv_Atoi_ok (str l) (by omega) v (by rw [str_toList]; exact he) w).mono fun e w' ⟨h2, h3⟩ => ⟨_, h2, ?_, two (.int (atoi_in he)) .nili⟩
      rcases h3 with rfl | ⟨t, rfl⟩
      · exact Below.refl _ _
      · exact Lib.bytesWorld_below _ _ _
    · exact (Tryz.strconv_Atoi_syntax (str l) sz (by rw [str_toList, he]; exact ⟨fun v h => (by cases h), fun h => (by cases h)⟩) v1 w (at_cell (by decide) k1 0) i1).mono fun e w' ⟨M, h2, h3, h4, h5⟩ => ⟨_, h2, h5, two (.int (inR_zero _)) (far h3 h4)⟩
    · refine (Tryz.strconv_Atoi_range (str l) sz (by rw [str_toList]; exact he) v2 w (at_cell (by decide) k2 0) i2).mono fun e w' ⟨M, h2, h3, h4, h5⟩ => ⟨_, h2, h5, two ?_ (far h3 h4)⟩
      rw [str_toList]
      exact .int (sat_in l)
/-! ### Out of a row's condition -/
theorem laid_at {P : Program} {W : World} {n : String} {d : DataW Unit} : ∀ {l : List (String × DataW Unit)} {ps : List MemPlace}, DataW.LaidVars P W l ps → (n, d) ∈ l →
    ∃ g t cs fuel p, P.globalNamed n = some g ∧ (P.globals[g]?).map (·.type) = some t ∧ W.var? P n = some cs ∧ DataW.trod (fun _ => ()) P W 0 (fun _ => true) false fuel t cs.toList = some (d, p)
  | (m, e) :: r, ps, h, hm => by
    obtain ⟨g, t, cs, fuel, p, q, h1, h2, h3, h4, h5, _⟩ := h
    rcases List.mem_cons.1 hm with e | hm
    · cases e; exact ⟨g, t, cs, fuel, p, h1, h2, h3, h4⟩
    · exact laid_at h5 hm
theorem var_heap {P : Program} {W : World} {n : String} {g : Nat} {cs : Array Value} (hg : P.globalNamed n = some g) (h : W.var? P n = some cs) : ∃ t fr, W.heap[g]? = some (.cells cs t fr) := by
  unfold World.var? at h
  rw [hg] at h
  simp only [Option.bind_some] at h
  split at h
  · rename_i cs' t fr hh
    cases h
    exact ⟨t, fr, hh⟩
  · cases h
theorem trod_held {P : Program} {W : World} {fuel t ms : _} {cs : List Value} {d : DataW Unit} {p : List MemPlace} (ht : P.underlying t = some (.interface ms)) (h : DataW.trod (fun _ => ()) P W 0 (fun _ => true) false fuel t cs = some (d, p)) : ∃ v, cs = [v] ∧ (v = .nilIface ∨ ∃ u x, v = .iface u x) := by
  cases fuel with
  | zero => simp [DataW.trod] at h
  | succ fuel =>
    unfold DataW.trod at h
    rw [ht] at h
    split at h <;> first
      | (rename_i e1 e2; cases e2; exact ⟨_, rfl, .inl rfl⟩)
      | exact ⟨_, rfl, .inl rfl⟩
      | exact ⟨_, rfl, .inr ⟨_, _, rfl⟩⟩
      | (rename_i e; cases e)
      | cases h
theorem glob_of {laid : List (String × DataW Unit)} {d1 d2 : DataW Unit} {w : World} (h : laidMet Tryz.prog laid w) (m1 : ("strconv.ErrSyntax", d1) ∈ laid) (m2 : ("strconv.ErrRange", d2) ∈ laid) (m3 : ("internal/strconv.uint64pow10", Lib.tabData .u64 Lib.pow10Tab) ∈ laid) : GlOk gStr (fun _ => False) w := by
  obtain ⟨ps, h, _⟩ := h
  have ht : ∀ n g t, Tryz.prog.globalNamed n = some g → (Tryz.prog.globals[g]?).map (·.type) = some t → ∀ g' t', Tryz.prog.globalNamed n = some g' → (Tryz.prog.globals[g']?).map (·.type) = some t' → g' = g ∧ t' = t := fun n g t h1 h2 g' t' h3 h4 => by
    rw [h1] at h3; cases h3
    rw [h2] at h4; cases h4
    exact ⟨rfl, rfl⟩
  obtain ⟨g, t, cs, fuel, p, a1, a2, a3, a4⟩ := laid_at h m1
  obtain ⟨rfl, rfl⟩ := ht _ 1 101 (by kernel_rfl) (by kernel_rfl) g t a1 a2
  obtain ⟨v1, e1, i1⟩ := trod_held Tryz.underlying101 a4
  obtain ⟨t1, fr1, b1⟩ := var_heap a1 a3
  obtain ⟨g', t', cs', fuel', p', c1, c2, c3, c4⟩ := laid_at h m2
  obtain ⟨rfl, rfl⟩ := ht _ 2 101 (by kernel_rfl) (by kernel_rfl) g' t' c1 c2
  obtain ⟨v2, e2, i2⟩ := trod_held Tryz.underlying101 c4
  obtain ⟨t2, fr2, b2⟩ := var_heap c1 c3
  obtain ⟨g3, t3, cs3, fuel3, p3, k1, k2, k3, k4⟩ := laid_at h m3
  obtain ⟨rfl, rfl⟩ := ht _ 3 143 (by kernel_rfl) (by kernel_rfl) g3 t3 k1 k2
  obtain ⟨tt, fr3, b3⟩ := var_heap k1 k3
  have e3 := Lib.cells_of_tab Tryz.underlying143 Tryz.underlying126 (by kernel_rfl) (by kernel_rfl) k4
  have e1 : cs = #[v1] := by apply Array.ext'; simpa using e1
  have e2 : cs' = #[v2] := by apply Array.ext'; simpa using e2
  have e3 : cs3 = (Lib.pow10Tab.map fun z => Value.int .u64 z).toArray := by apply Array.ext'; simpa using e3
  have hsz : ∀ g o, w.heap[g]? = some o → g < w.heap.size := fun g o h => (Array.getElem?_eq_some_iff.1 h).1
  have z1 := hsz _ _ b1
  have z2 := hsz _ _ b2
  have z3 := hsz _ _ b3
  refine ⟨by show gN ≤ _; unfold gN; omega, fun b hb => hb.elim, ⟨v1, i1, t1, fr1, ?_⟩, ⟨v2, i2, t2, fr2, ?_⟩, ⟨tt, fr3, ?_⟩⟩
  · rw [← e1]; exact (if_pos (show 1 < gN by decide)).trans b1
  · rw [← e2]; exact (if_pos (show 2 < gN by decide)).trans b2
  · rw [← e3]; exact (if_pos (show 3 < gN by decide)).trans b3
end
end Go.Proofs.YtoehdmbogdpncaaGreatDoor.Globs
end

section
namespace Go.Proofs.YtoehdmbogdpncaaGreatDoor.HostP
open WordP WordS

def digB (c : UInt8) : Bool := decide (48 ≤ c.toNat) && decide (c.toNat ≤ 57)
def outerB (c : UInt8) : Bool := (decide (97 ≤ c.toNat) && decide (c.toNat ≤ 122)) || digB c
def hostB (c : UInt8) : Bool := outerB c || c.toNat == 45
/-- A label of a host. -/
def label (l : List UInt8) : Bool := !l.isEmpty && decide (l.length ≤ 63) && outerB (l.getD 0 0) && outerB (l.getD (l.length - 1) 0) && l.all hostB
def canonF (l : List UInt8) : List UInt8 × Nat := if 253 < l.length then ([], 2) else if (split 46 (fold l)).all label then (fold l, 0) else ([], 1)
def value (l : List UInt8) : Nat := l.foldl (fun n c => 10 * n + (c.toNat - 48)) 0
def octet (l : List UInt8) : Bool := decide (1 ≤ l.length) && decide (l.length ≤ 3) && l.all digB && decide (value l ≤ 255) && (decide (l.length ≤ 1) || !(l.getD 0 0 == 48))
def address (l : List UInt8) : Bool := decide ((split 46 l).length = 4) && (split 46 l).all octet
def endsB (l s : List UInt8) : Bool := decide (s.length ≤ l.length) && l.drop (l.length - s.length) == s
def matchF (h d : List UInt8) : Bool := h == d || (!address h && endsB h (46 :: d))
def after : List UInt8 → List (List UInt8)
  | [] => []
  | c :: r => if c = 46 then r :: after r else after r
def upsF (l : List UInt8) : List (List UInt8) := if l = [] then [] else if address l then [l] else l :: after l

theorem endsB_iff (l s : List UInt8) : endsB l s = true ↔ ∃ x, l = x ++ s := by
  unfold endsB
  constructor
  · intro h
    simp only [Bool.and_eq_true, decide_eq_true_eq, beq_iff_eq] at h
    refine ⟨l.take (l.length - s.length), ?_⟩
    conv => { lhs; rw [← List.take_append_drop (l.length - s.length) l, h.2] }
  · rintro ⟨x, rfl⟩
    simp
theorem mem_after (a : List UInt8) : ∀ l : List UInt8, a ∈ after l ↔ ∃ x, l = x ++ 46 :: a
  | [] => by simp [after]
  | c :: r => by
    have ih := mem_after a r
    unfold after
    constructor
    · intro h
      split at h
      · rename_i hc
        rcases List.mem_cons.1 h with rfl | h
        · exact ⟨[], by rw [hc]; rfl⟩
        · obtain ⟨x, rfl⟩ := ih.1 h
          exact ⟨c :: x, rfl⟩
      · obtain ⟨x, rfl⟩ := ih.1 h
        exact ⟨c :: x, rfl⟩
    · rintro ⟨x, hx⟩
      cases x with
      | nil =>
        simp at hx
        rw [if_pos hx.1, hx.2]; exact List.mem_cons_self
      | cons d x =>
        simp only [List.cons_append, List.cons.injEq] at hx
        have := ih.2 ⟨x, hx.2⟩
        split
        · exact List.mem_cons_of_mem _ this
        · exact this
end Go.Proofs.YtoehdmbogdpncaaGreatDoor.HostP
end

section
namespace Go.Proofs.YtoehdmbogdpncaaGreatDoor.HostO
open WordP WordS HostP

def dig3 (n : Nat) : List UInt8 := if n < 10 then [UInt8.ofNat (48 + n)] else if n < 100 then [UInt8.ofNat (48 + n / 10), UInt8.ofNat (48 + n % 10)] else [UInt8.ofNat (48 + n / 100), UInt8.ofNat (48 + n / 10 % 10), UInt8.ofNat (48 + n % 10)]
theorem dec_dig3 {n : Nat} (h : n < 1000) : Lib.decDigits n = dig3 n := by
  unfold dig3
  split
  · exact Lib.decDigits_one (by assumption)
  · split
    · exact Lib.decDigits_two (by assumption) (by assumption)
    · rw [Lib.decDigits, dif_neg (by assumption), Lib.decDigits_two (by omega) (by omega)]
      simp only [List.cons_append, List.nil_append, Nat.div_div_eq_div_mul]
theorem oct_fin : ∀ n : Fin 256, octet (dig3 n.val) = true ∧ value (dig3 n.val) = n.val := by decide +kernel
theorem atoi_fin : ∀ n : Fin 256, Lib.parseMag (dig3 n.val) = .ok n.val ∧ (match dig3 n.val with | [] => false | c :: _ => decide (c.toNat ≠ 43) && decide (c.toNat ≠ 45)) = true := by decide +kernel
theorem atoi_dig3 {n : Nat} (h : n < 256) : Lib.atoiAll (dig3 n) = .ok (n : Int) := by
  obtain ⟨h1, h2⟩ := atoi_fin ⟨n, h⟩
  simp only at h1 h2
  revert h1 h2
  generalize dig3 n = l
  intro h1 h2
  cases l with
  | nil => cases h2
  | cons c r =>
    simp only [Bool.and_eq_true, decide_eq_true_eq] at h2
    unfold Lib.atoiAll
    simp only [h2.1, h2.2, or_self, if_false, h1]
    rw [if_neg (by omega), if_neg (by simp)]
theorem one_fin : ∀ a : Fin 10, octet [UInt8.ofNat (48 + a.val)] = true → [UInt8.ofNat (48 + a.val)] = dig3 (value [UInt8.ofNat (48 + a.val)]) := by decide +kernel
theorem two_fin : ∀ a b : Fin 10, octet [UInt8.ofNat (48 + a.val), UInt8.ofNat (48 + b.val)] = true → [UInt8.ofNat (48 + a.val), UInt8.ofNat (48 + b.val)] = dig3 (value [UInt8.ofNat (48 + a.val), UInt8.ofNat (48 + b.val)]) := by decide +kernel
theorem three_fin : ∀ a b c : Fin 10, octet [UInt8.ofNat (48 + a.val), UInt8.ofNat (48 + b.val), UInt8.ofNat (48 + c.val)] = true → [UInt8.ofNat (48 + a.val), UInt8.ofNat (48 + b.val), UInt8.ofNat (48 + c.val)] = dig3 (value [UInt8.ofNat (48 + a.val), UInt8.ofNat (48 + b.val), UInt8.ofNat (48 + c.val)]) := by decide +kernel
theorem dig_of {c : UInt8} (h : digB c = true) : ∃ a : Fin 10, c = UInt8.ofNat (48 + a.val) := by
  unfold digB at h
  simp only [Bool.and_eq_true, decide_eq_true_eq] at h
  refine ⟨⟨c.toNat - 48, by omega⟩, ?_⟩
  apply UInt8.toNat.inj
  rw [UInt8.toNat_ofNat_of_lt' (by have := c.toNat_lt; show 48 + (c.toNat - 48) < 256; omega)]
  show c.toNat = 48 + (c.toNat - 48)
  omega
theorem octet_parts {s : List UInt8} (h : octet s = true) : 1 ≤ s.length ∧ s.length ≤ 3 ∧ s.all digB = true ∧ value s ≤ 255 := by
  unfold octet at h
  simp only [Bool.and_eq_true, decide_eq_true_eq] at h
  exact ⟨h.1.1.1.1, h.1.1.1.2, h.1.1.2, h.1.2⟩
theorem octet_dig3 {s : List UInt8} (h : octet s = true) : s = dig3 (value s) := by
  obtain ⟨h1, h2, h3, _⟩ := octet_parts h
  match s, h1, h2 with
  | [a], _, _ =>
    simp at h3
    obtain ⟨a, rfl⟩ := dig_of h3
    exact one_fin a h
  | [a, b], _, _ =>
    simp at h3
    obtain ⟨a, rfl⟩ := dig_of h3.1
    obtain ⟨b, rfl⟩ := dig_of h3.2
    exact two_fin a b h
  | [a, b, c], _, _ =>
    simp at h3
    obtain ⟨a, rfl⟩ := dig_of h3.1
    obtain ⟨b, rfl⟩ := dig_of h3.2.1
    obtain ⟨c, rfl⟩ := dig_of h3.2.2
    exact three_fin a b c h
  | a :: b :: c :: d :: r, _, h => simp at h
/-- What strconv says of it. -/
theorem octet_iff (s : List UInt8) : octet s = true ↔ ∃ n : Int, Lib.atoiAll s = .ok n ∧ n ≤ 255 ∧ Lib.itoa n = s ∧ 0 ≤ n := by
  constructor
  · intro h
    have h1 := (octet_parts h).2.2.2
    have h2 := octet_dig3 h
    refine ⟨(value s : Nat), ?_, by omega, ?_, by omega⟩
    · have h3 := atoi_dig3 (n := value s) (by omega)
      rwa [← h2] at h3
    · unfold Lib.itoa
      rw [if_neg (by omega), Int.toNat_natCast, dec_dig3 (by omega), ← h2]
  · rintro ⟨n, h1, h2, h3, h4⟩
    obtain ⟨k, rfl⟩ := Int.eq_ofNat_of_zero_le h4
    unfold Lib.itoa at h3
    rw [if_neg (by omega), Int.toNat_natCast, dec_dig3 (by omega)] at h3
    rw [← h3]
    exact (oct_fin ⟨k, by omega⟩).1
/-! ### The digits that a text begins with -/
def lead (l : List UInt8) : List UInt8 := l.takeWhile digB
def leadN (l : List UInt8) : Nat := value ((lead l).take 5)
theorem value_snoc (l : List UInt8) (c : UInt8) : value (l ++ [c]) = 10 * value l + (c.toNat - 48) := by unfold value; rw [List.foldl_append]; rfl
theorem snoc_ind {α : Type} {p : List α → Prop} (h0 : p []) (h1 : ∀ l b, p l → p (l ++ [b])) : ∀ l, p l := fun l => by
  have : ∀ r : List α, p r.reverse := fun r => by
    induction r with
    | nil => exact h0
    | cons b r ih => rw [List.reverse_cons]; exact h1 _ _ ih
  have h := this l.reverse
  rwa [List.reverse_reverse] at h
theorem value_le : ∀ (l : List UInt8), l.all digB = true → value l < 10 ^ l.length := by
  refine snoc_ind (fun _ => by decide) fun l c ih h => ?_
  · skip
    rw [List.all_append, Bool.and_eq_true] at h
    have h1 := ih h.1
    have h2 : digB c = true := by simpa using h.2
    unfold digB at h2
    simp only [Bool.and_eq_true, decide_eq_true_eq] at h2
    rw [value_snoc, List.length_append, List.length_singleton, Nat.pow_succ]
    omega
theorem lead_all (l : List UInt8) : (lead l).all digB = true := List.all_eq_true.2 fun x hx => by
  unfold lead at hx
  induction l with
  | nil => simp at hx
  | cons c r ih =>
    rw [List.takeWhile_cons] at hx
    split at hx
    · rename_i hc
      rcases List.mem_cons.1 hx with rfl | hx
      · exact hc
      · exact ih hx
    · cases hx
theorem take_self : ∀ (s : List UInt8), s.all digB = true → s.takeWhile digB = s
  | [], _ => rfl
  | c :: r, h => by
    rw [List.all_cons, Bool.and_eq_true] at h
    rw [List.takeWhile_cons, if_pos h.1, take_self r h.2]
theorem octet_lead (s : List UInt8) : octet s = (decide (1 ≤ (lead s).length) && decide ((lead s).length ≤ 3) && decide ((lead s).length = s.length) && decide (leadN s ≤ 255) && (decide ((lead s).length ≤ 1) || !(s.getD 0 0 == 48))) := by
  by_cases h : s.all digB = true
  · have e : lead s = s := by
      unfold lead
      exact take_self s h
    unfold octet leadN
    rw [e, h]
    by_cases h3 : s.length ≤ 3
    · rw [List.take_of_length_le (by omega)]; simp
    · simp [h3]
  · have e : (lead s).length ≠ s.length := fun e => by
      have h1 : lead s = s := by
        have := List.takeWhile_prefix digB (l := s)
        exact this.eq_of_length e
      exact h (h1 ▸ lead_all s)
    simp only [Bool.not_eq_true] at h
    unfold octet
    rw [h]
    simp [e]
end Go.Proofs.YtoehdmbogdpncaaGreatDoor.HostO
end

section
namespace Go.Proofs.YtoehdmbogdpncaaGreatDoor.FnB
open Go.RowKit Mem Abs

set_option maxRecDepth 100000 in
set_option maxHeartbeats 4000000 in
theorem index_b {gl : Glob} {g : Nat} {caps : List V} {p : UInt8 → Bool} {l : List UInt8} (hg : hasBody Tryz.prog g = true) (hc : V.namesL caps = []) (hl : l.length ≤ LIM) (h : ∀ c ∈ l, ACallsG Tryz.prog gl g ([] ++ [byteT c] ++ caps) (.bool (p c))) : ACallsG Tryz.prog gl 115 [.fro (l.map byteT), .fn (.func g) [] caps] (.int .i64 (firstI p l)) := by
  refine funG2 tb_ok Tryz.func115 rfl Tryz.ntmps115 Tryz.results115 rfl fun N => ?_
  repeat' (first | refine zt ?_ | (refine isR ?_; first | refine zo ?_ | refine zA ?_ | refine zL ?_ | refine zc1 ?_ | refine zI ?_ | (refine zs1 ?_ ?_ <;> intro hc)) | refine awp_split rfl (fun hb => ?_) (fun hb => ?_) | refine zr ?_ | exact x_le)
  refine awp_for (fun k => ⟨[(0, .fro (l.map byteT)), (1, .fn (.func g) [] caps), (7, .int .i64 (l.map byteT).length), (8, .int .i64 (k : Int))], [], 0, 19⟩) (fun k => k ≤ l.length ∧ ∀ j y, j < k → l[j]? = some y → p y = false) l.length 0 ?_ ⟨Nat.zero_le _, fun j y h => absurd h (Nat.not_lt_zero _)⟩ ?_
  · exact (by exact x_le)
  · intro k ⟨hk, hp⟩
    simp only [LIM] at hl
    have e0 : ((l.map byteT).length : Int) = (l.length : Int) := by simp
    by_cases hk2 : k < l.length
    · have e1 : (l.map byteT)[k]? = some (byteT l[k]) := by simp [hk2]
      have h1 := h l[k] (List.getElem_mem hk2)
      repeat' (first | refine zt ?_ | (refine isR ?_; first | refine zo ?_ | refine r_splitB rfl rfl rfl (law_callv (vs := [_]) rfl (enters hg) (by rfl) h1 (by simp [V.namesL, V.names, hc])) (hT rfl (hT rfl Abs.h0)) (fun hb => ?_) (fun hb => ?_) | refine zA ?_ | refine zL ?_ | refine zc1 ?_ | refine zI ?_ | (refine zs1 ?_ ?_ <;> intro hc)) | refine awp_split rfl (fun hb => ?_) (fun hb => ?_) | refine zr ?_ | exact x_le)
      · show V.int .i64 _ = V.int .i64 _
        rw [firstI_at hp (List.getElem?_eq_getElem hk2) hb]
      · refine ⟨⟨by omega, fun j y hj hy => ?_⟩, by omega, ?_⟩
        · rcases Nat.lt_succ_iff_lt_or_eq.1 hj with h1 | rfl
          · exact hp j y h1 hy
          · rw [List.getElem?_eq_getElem hk2] at hy; cases hy; exact hb
        · exact (by exact x_le)
    · skip
      repeat' (first | refine zt ?_ | (refine isR ?_; first | refine zo ?_ | refine zA ?_ | refine zL ?_ | refine zc1 ?_ | refine zI ?_ | (refine zs1 ?_ ?_ <;> intro hc)) | refine awp_split rfl (fun hb => ?_) (fun hb => ?_) | refine zr ?_ | exact x_le)
      show V.int .i64 _ = V.int .i64 _
      rw [firstI_none fun x hx => ?_]
      obtain ⟨i, hi⟩ := List.mem_iff_getElem?.1 hx
      exact hp i x (by have := (List.getElem?_eq_some_iff.1 hi).1; omega) hi
set_option maxRecDepth 100000 in
set_option maxHeartbeats 4000000 in
theorem contains_b {gl : Glob} {g : Nat} {caps : List V} {p : UInt8 → Bool} {l : List UInt8} (hg : hasBody Tryz.prog g = true) (hc : V.namesL caps = []) (hl : l.length ≤ LIM) (h : ∀ c ∈ l, ACallsG Tryz.prog gl g ([] ++ [byteT c] ++ caps) (.bool (p c))) : ACallsG Tryz.prog gl 101 [.fro (l.map byteT), .fn (.func g) [] caps] (.bool (l.any p)) := by
  have hi := index_b hg hc hl h
  have hn : V.namesL [.fro (l.map byteT), .fn (.func g) [] caps] = [] := by simp [V.namesL, V.names, hc]
  refine funG2 tb_ok Tryz.func101 rfl Tryz.ntmps101 Tryz.results101 rfl fun N => ?_
  repeat' (first | refine zt ?_ | (refine isR ?_; first | refine zo ?_ | refine zc4 ?_ | (refine zs4 ?_ ?_ <;> intro hc)) | refine awp_split rfl (fun hb => ?_) (fun hb => ?_) | refine zr ?_ | exact x_le)
  refine r_val rfl rfl rfl (law_call rfl (enters (by kernel_rfl)) (by rfl) hi hn) (hT rfl (hT rfl Abs.h0)) ?_
  repeat' (first | refine zt ?_ | (refine isR ?_; first | refine zo ?_ | refine zc4 ?_ | (refine zs4 ?_ ?_ <;> intro hc)) | refine awp_split rfl (fun hb => ?_) (fun hb => ?_) | refine zr ?_ | exact x_le)
  · show V.bool _ = V.bool _
    rw [firstI_ge.1 (by assumption)]
  · show V.bool _ = V.bool _
    have : ¬ (l.any p = true) := fun h => by have := firstI_ge.2 h; contradiction
    simp only [Bool.not_eq_true] at this
    rw [this]
end Go.Proofs.YtoehdmbogdpncaaGreatDoor.FnB
end

section
namespace Go.Proofs.YtoehdmbogdpncaaGreatDoor.HostA
open Go.RowKit Mem Abs HostP

set_option maxRecDepth 100000 in
set_option maxHeartbeats 4000000 in
theorem isDigit_v {c : UInt8} : ACalls Tryz.prog 109 [byteT c] (.bool (digB c)) := by
  refine fun1 tb_ok Tryz.func109 rfl Tryz.ntmps109 Tryz.results109 rfl fun N => ?_
  repeat' (first | refine zt ?_ | (refine isR ?_; first | refine zo ?_ | refine zc2 ?_ | refine zc4 ?_ | (refine zs2 ?_ ?_ <;> intro hc) | (refine zs4 ?_ ?_ <;> intro hc)) | refine awp_split rfl (fun hb => ?_) (fun hb => ?_) | refine zr ?_ | exact x_le)
  all_goals (show V.bool _ = V.bool _; congr 1; unfold digB; simp; omega)
set_option maxRecDepth 100000 in
set_option maxHeartbeats 4000000 in
theorem outer_v {c : UInt8} : ACalls Tryz.prog 100 [byteT c] (.bool (outerB c)) := by
  refine fun1 tb_ok Tryz.func100 rfl Tryz.ntmps100 Tryz.results100 rfl fun N => ?_
  repeat' (first | refine zt ?_ | (refine isR ?_; first | refine zo ?_ | refine zc2 ?_ | refine zc4 ?_ | (refine zs2 ?_ ?_ <;> intro hc) | (refine zs4 ?_ ?_ <;> intro hc)) | refine awp_split rfl (fun hb => ?_) (fun hb => ?_) | refine zr ?_ | exact x_le)
  all_goals (show V.bool _ = V.bool _; congr 1; unfold outerB digB; simp; omega)
abbrev outerT : Abs.V := .fn (.func 100) [] []
set_option maxRecDepth 100000 in
set_option maxHeartbeats 4000000 in
theorem inner_v {c : UInt8} : ACalls Tryz.prog 102 [byteT c, .fp [outerT] 0] (.bool (!hostB c)) := by
  refine fun2 tb_ok Tryz.func102 rfl Tryz.ntmps102 Tryz.results102 rfl fun N => ?_
  have h1 := outer_v (c := c)
  repeat' (first | refine zt ?_ | (refine isR ?_; first | refine zo ?_ | refine x_callvS (h1 _) (fun hb => ?_) (fun hb => ?_) | refine x_callvS (h1) (fun hb => ?_) (fun hb => ?_) | refine zc6 ?_ | (refine zs6 ?_ ?_ <;> intro hc)) | refine awp_split rfl (fun hb => ?_) (fun hb => ?_) | refine zr ?_ | exact x_le)
  all_goals (show V.bool _ = V.bool _; congr 1; unfold hostB; simp [*])
  all_goals omega
theorem str_lim {l : List UInt8} {r : List Abs.V} (h : V.LimL (strT l :: r)) : l.length ≤ 4611686018427387904 ∧ V.LimL r := by
  have := h.1
  rw [V.Lim, str_size] at this
  exact ⟨this, h.2⟩
set_option maxRecDepth 100000 in
set_option maxHeartbeats 4000000 in
theorem label_v {l : List UInt8} : ACalls Tryz.prog 86 [strT l] (.bool (label l)) := ACalls.lim fun hl => by
  obtain ⟨hl, _⟩ := str_lim hl
  refine fun1 tb_ok Tryz.func86 rfl Tryz.ntmps86 Tryz.results86 rfl fun N => ?_
  by_cases h0 : l = []
  · subst h0
    repeat' (first | refine zt ?_ | (refine isR ?_; first | refine zo ?_ | refine zA ?_ | refine zL ?_ | refine zc3 ?_ | refine zc5 ?_ | refine zI ?_ | refine zB ?_ | (refine zs3 ?_ ?_ <;> intro hc) | (refine zs5 ?_ ?_ <;> intro hc)) | refine awp_split rfl (fun hb => ?_) (fun hb => ?_) | refine zr ?_ | exact x_le)
    rfl
  · have hp : 0 < l.length := List.length_pos_iff.2 h0
    have h1 : l[(0 : Int).toNat]? = some (l[0]) := by simp
    have h2 : l[((l.length : Int) - 1).toNat]? = some (l[l.length - 1]) := by
      rw [show ((l.length : Int) - 1).toNat = l.length - 1 by omega]; simp
    have e1 : l.getD 0 0 = l[0] := by rw [List.getD_eq_getElem?_getD, List.getElem?_eq_getElem hp]; rfl
    have e2 : l.getD (l.length - 1) 0 = l[l.length - 1] := by rw [List.getD_eq_getElem?_getD, List.getElem?_eq_getElem (by omega)]; rfl
    generalize l[0] = a at h1 e1
    generalize l[l.length - 1] = b at h2 e2
    have c1 := outer_v (c := a)
    have c2 := outer_v (c := b)
    by_cases hm : 63 < l.length
    · skip
      repeat' (first | refine zt ?_ | (refine isR ?_; first | refine zo ?_ | refine zA ?_ | refine zL ?_ | refine zc3 ?_ | refine zc5 ?_ | refine zI ?_ | refine zB ?_ | (refine zs3 ?_ ?_ <;> intro hc) | (refine zs5 ?_ ?_ <;> intro hc)) | refine awp_split rfl (fun hb => ?_) (fun hb => ?_) | refine zr ?_ | exact x_le)
      show V.bool _ = V.bool _
      congr 1; unfold label; simp; intros; omega
    · have c3 := fun gl => FnB.contains_b (gl := gl) (g := 102) (caps := [.fp [outerT] 0]) (p := fun c => !hostB c) (l := l) (by kernel_rfl) rfl (by simp only [LIM]; omega) (fun c _ => inner_v gl)
      repeat' (first | refine zt ?_ | (refine isR ?_; first | refine zo ?_ | refine x_callvS (c1 _) (fun hb => ?_) (fun hb => ?_) | refine x_callvS (c1) (fun hb => ?_) (fun hb => ?_) | refine x_callvS (c2 _) (fun hb => ?_) (fun hb => ?_) | refine x_callvS (c2) (fun hb => ?_) (fun hb => ?_) | refine x_callzS [0] (c3 _) (fun hb => ?_) (fun hb => ?_) | refine x_callzS [0] (c3) (fun hb => ?_) (fun hb => ?_) | refine zA ?_ | refine zL ?_ | refine zc3 ?_ | refine zc5 ?_ | refine zI ?_ | refine zB ?_ | (refine zs3 ?_ ?_ <;> intro hc) | (refine zs5 ?_ ?_ <;> intro hc)) | refine awp_split rfl (fun hb => ?_) (fun hb => ?_) | refine zr ?_ | exact x_le)
      all_goals
        show V.bool _ = V.bool _
        congr 1; unfold label; rw [e1, e2]
        have hq : l.length ≤ 63 := by omega
        simp_all
theorem host_outer {c : UInt8} (h : hostB c = true) (h2 : ¬ ((c.toNat : Int) = 45)) : outerB c = true := by
  unfold hostB at h
  rw [Bool.or_eq_true] at h
  rcases h with h | h
  · exact h
  · simp at h; omega
theorem outer_45 {c : UInt8} (h : ((c.toNat : Int) = 45)) : outerB c = false := by
  unfold outerB digB
  simp; omega
set_option maxRecDepth 100000 in
set_option maxHeartbeats 4000000 in
theorem isLabel_v {l : List UInt8} : ACalls Tryz.prog 93 [strT l] (.bool (label l)) := ACalls.lim fun hl => by
  obtain ⟨hl, _⟩ := str_lim hl
  refine fun1 tb_ok Tryz.func93 rfl Tryz.ntmps93 Tryz.results93 rfl fun N => ?_
  by_cases h0 : l = []
  · have hz : l.length = 0 := by rw [h0]; rfl
    repeat' (first | refine zt ?_ | (refine isR ?_; first | refine zo ?_ | refine zA ?_ | refine zL ?_ | refine zc1 ?_ | refine zc2 ?_ | refine zc3 ?_ | refine zc4 ?_ | refine zc5 ?_ | refine zc6 ?_ | refine zI ?_ | (refine zs1 ?_ ?_ <;> intro hc) | (refine zs2 ?_ ?_ <;> intro hc) | (refine zs3 ?_ ?_ <;> intro hc) | (refine zs4 ?_ ?_ <;> intro hc) | (refine zs5 ?_ ?_ <;> intro hc) | (refine zs6 ?_ ?_ <;> intro hc)) | refine awp_split rfl (fun hb => ?_) (fun hb => ?_) | refine zr ?_ | exact x_le)
    rw [h0]; rfl
  · have hp : 0 < l.length := List.length_pos_iff.2 h0
    have h1 : l[(0 : Int).toNat]? = some (l[0]) := by simp
    have h2 : l[((l.length : Int) - 1).toNat]? = some (l[l.length - 1]) := by
      rw [show ((l.length : Int) - 1).toNat = l.length - 1 by omega]; simp
    have e1 : l.getD 0 0 = l[0] := by rw [List.getD_eq_getElem?_getD, List.getElem?_eq_getElem hp]; rfl
    have e2 : l.getD (l.length - 1) 0 = l[l.length - 1] := by rw [List.getD_eq_getElem?_getD, List.getElem?_eq_getElem (by omega)]; rfl
    have m1 : l[0] ∈ l := List.getElem_mem _
    have m2 : l[l.length - 1] ∈ l := List.getElem_mem _
    generalize l[0] = a at h1 e1 m1
    generalize l[l.length - 1] = b at h2 e2 m2
    have el : label l = (decide (l.length ≤ 63) && outerB a && outerB b && l.all hostB) := by
      unfold label; rw [e1, e2]; cases l with
      | nil => exact absurd rfl h0
      | cons => rfl
    rw [el]
    repeat' (first | refine zt ?_ | (refine isR ?_; first | refine zo ?_ | refine zA ?_ | refine zL ?_ | refine zc1 ?_ | refine zc2 ?_ | refine zc3 ?_ | refine zc4 ?_ | refine zc5 ?_ | refine zc6 ?_ | refine zI ?_ | (refine zs1 ?_ ?_ <;> intro hc) | (refine zs2 ?_ ?_ <;> intro hc) | (refine zs3 ?_ ?_ <;> intro hc) | (refine zs4 ?_ ?_ <;> intro hc) | (refine zs5 ?_ ?_ <;> intro hc) | (refine zs6 ?_ ?_ <;> intro hc)) | refine awp_split rfl (fun hb => ?_) (fun hb => ?_) | refine zr ?_ | exact x_le)
    · show V.bool _ = V.bool _
      simp; intros; omega
    · show V.bool _ = V.bool _
      simp [outer_45 (by assumption)]
    · show V.bool _ = V.bool _
      simp [outer_45 (c := b) (by assumption)]
    · refine awp_for (fun k => ⟨[(0, strT l), (3, .int .i64 (k : Int))], [], 0, 55⟩) (fun k => k ≤ l.length ∧ Upto hostB l k) l.length 0 ?_ ⟨Nat.zero_le _, upto0⟩ ?_
      · exact (by exact x_le)
      · intro k ⟨hk, hq⟩
        by_cases hk2 : k < l.length
        · have e1 : l[k]? = some l[k] := by simp [hk2]
          generalize l[k] = c at e1
          have hd := isDigit_v (c := c)
          repeat' (first | refine zt ?_ | (refine isR ?_; first | refine zo ?_ | refine x_callvS (hd _) (fun hb => ?_) (fun hb => ?_) | refine x_callvS (hd) (fun hb => ?_) (fun hb => ?_) | refine x_callS (hd _) (fun hb => ?_) (fun hb => ?_) | refine x_callS (hd) (fun hb => ?_) (fun hb => ?_) | refine zA ?_ | refine zL ?_ | refine zc1 ?_ | refine zc2 ?_ | refine zc3 ?_ | refine zc4 ?_ | refine zc5 ?_ | refine zc6 ?_ | refine zI ?_ | (refine zs1 ?_ ?_ <;> intro hc) | (refine zs2 ?_ ?_ <;> intro hc) | (refine zs3 ?_ ?_ <;> intro hc) | (refine zs4 ?_ ?_ <;> intro hc) | (refine zs5 ?_ ?_ <;> intro hc) | (refine zs6 ?_ ?_ <;> intro hc)) | refine awp_split rfl (fun hb => ?_) (fun hb => ?_) | refine zr ?_ | exact x_le)
          all_goals first
            | (show V.bool _ = V.bool _
               rw [all_no (p := hostB) e1 (by unfold hostB outerB; simp [*]; omega)]
               simp)
            | (refine ⟨⟨by omega, hq.on e1 (by unfold hostB outerB; simp [*]; try omega)⟩, by omega, ?_⟩
               exact (by exact x_le))
        · skip
          repeat' (first | refine zt ?_ | (refine isR ?_; first | refine zo ?_ | refine zA ?_ | refine zL ?_ | refine zc1 ?_ | refine zc2 ?_ | refine zc3 ?_ | refine zc4 ?_ | refine zc5 ?_ | refine zc6 ?_ | refine zI ?_ | (refine zs1 ?_ ?_ <;> intro hc) | (refine zs2 ?_ ?_ <;> intro hc) | (refine zs3 ?_ ?_ <;> intro hc) | (refine zs4 ?_ ?_ <;> intro hc) | (refine zs5 ?_ ?_ <;> intro hc) | (refine zs6 ?_ ?_ <;> intro hc)) | refine awp_split rfl (fun hb => ?_) (fun hb => ?_) | refine zr ?_ | exact x_le)
          show V.bool _ = V.bool _
          have hall2 := hq.all hk2
          have hall := List.all_eq_true.1 hall2
          rw [host_outer (hall a m1) (by assumption), host_outer (hall b m2) (by assumption), hall2]
          simp; omega
end Go.Proofs.YtoehdmbogdpncaaGreatDoor.HostA
end

section
namespace Go.Proofs.YtoehdmbogdpncaaGreatDoor.HostB
open Go.RowKit Mem Abs HostP HostA TreeW WordP WordS

abbrev pairT (p : List UInt8 × Nat) : Abs.V := .tup [strT p.1, .int .i64 ((p.2 : Nat) : Int)]
set_option maxRecDepth 100000 in
set_option maxHeartbeats 4000000 in
theorem canon_v {l : List UInt8} : ACalls Tryz.prog 73 [strT l] (pairT (canonF l)) := ACalls.lim fun hl => by
  obtain ⟨hl, _⟩ := TreeW.str_lim hl
  have c1 := fold_v (l := l)
  refine fun1 tb_ok Tryz.func73 rfl Tryz.ntmps73 Tryz.results73 rfl fun N => ?_
  by_cases h0 : 253 < l.length
  · skip
    repeat' (first | refine zt ?_ | (refine isR ?_; first | refine zo ?_ | refine zA ?_ | refine zL ?_ | refine zc1 ?_ | refine zc3 ?_ | refine zI ?_ | (refine zs1 ?_ ?_ <;> intro hc) | (refine zs3 ?_ ?_ <;> intro hc)) | refine awp_split rfl (fun hb => ?_) (fun hb => ?_) | refine zr ?_ | exact x_le)
    unfold canonF; rw [if_pos h0]; rfl
  · obtain ⟨m, hm⟩ : ∃ m, fold l = m := ⟨_, rfl⟩
    have hml : m.length = l.length := by rw [← hm, fold_len]
    have c2 : ACalls _ _ [strT m, .int .u8 46] _ := parts_v (l := m) (u := 46) (by omega)
    have hs := split_len 46 m
    have es : canonF l = if (split 46 m).all label then (m, 0) else ([], 1) := by unfold canonF; rw [if_neg h0, hm]
    rw [es]
    rw [hm] at c1
    clear es hm
    generalize split 46 m = xs at *
    have hx : ((xs.map strT).length : Int) = (xs.length : Int) := by simp
    repeat' (first | refine zt ?_ | (refine isR ?_; first | refine zo ?_ | refine zk c1 ?_ | refine zk c2 ?_ | refine zA ?_ | refine zL ?_ | refine zc1 ?_ | refine zc3 ?_ | refine zI ?_ | (refine zs1 ?_ ?_ <;> intro hc) | (refine zs3 ?_ ?_ <;> intro hc)) | refine awp_split rfl (fun hb => ?_) (fun hb => ?_) | refine zr ?_ | exact x_le)
    refine awp_for (fun k => ⟨[(0, strT m), (12, strsT xs), (13, .int .i64 (xs.map strT).length), (14, .int .i64 (k : Int))], [], 0, 23⟩) (fun k => k ≤ xs.length ∧ Upto label xs k) xs.length 0 (by exact x_le) ⟨Nat.zero_le _, upto0⟩ ?_
    intro k ⟨hk, hq⟩
    by_cases hk2 : k < xs.length
    · have e1 : (xs.map strT)[k]? = some (strT xs[k]) := by simp [hk2]
      have e2 : xs[k]? = some xs[k] := by simp [hk2]
      generalize xs[k] = x at e1 e2
      have c3 := label_v (l := x)
      repeat' (first | refine zt ?_ | (refine isR ?_; first | refine zo ?_ | refine x_callS (c3 _) (fun hb => ?_) (fun hb => ?_) | refine x_callS (c3) (fun hb => ?_) (fun hb => ?_) | refine zA ?_ | refine zL ?_ | refine zc1 ?_ | refine zc3 ?_ | refine zI ?_ | (refine zs1 ?_ ?_ <;> intro hc) | (refine zs3 ?_ ?_ <;> intro hc)) | refine awp_split rfl (fun hb => ?_) (fun hb => ?_) | refine zr ?_ | exact x_le)
      · exact ⟨⟨by omega, hq.on e2 (by assumption)⟩, by omega, (by exact x_le)⟩
      · rw [all_no e2 (by assumption)]; rfl
    · skip
      repeat' (first | refine zt ?_ | (refine isR ?_; first | refine zo ?_ | refine zA ?_ | refine zL ?_ | refine zc1 ?_ | refine zc3 ?_ | refine zI ?_ | (refine zs1 ?_ ?_ <;> intro hc) | (refine zs3 ?_ ?_ <;> intro hc)) | refine awp_split rfl (fun hb => ?_) (fun hb => ?_) | refine zr ?_ | exact x_le)
      rw [hq.all hk2]; rfl
set_option maxRecDepth 100000 in
set_option maxHeartbeats 4000000 in
theorem hostOf_v {l : List UInt8} : ACalls Tryz.prog 79 [strT l] (pairT (canonF l)) := ACalls.lim fun hl => by
  obtain ⟨hl, _⟩ := TreeW.str_lim hl
  have c1 := foldOf_v (l := l)
  refine fun1 tb_ok Tryz.func79 rfl Tryz.ntmps79 Tryz.results79 rfl fun N => ?_
  by_cases h0 : 253 < l.length
  · skip
    repeat' (first | refine zt ?_ | (refine isR ?_; first | refine zo ?_ | refine zA ?_ | refine zL ?_ | refine zc1 ?_ | refine zc3 ?_ | refine zI ?_ | (refine zs1 ?_ ?_ <;> intro hc) | (refine zs3 ?_ ?_ <;> intro hc)) | refine awp_split rfl (fun hb => ?_) (fun hb => ?_) | refine zr ?_ | exact x_le)
    unfold canonF; rw [if_pos h0]; rfl
  · obtain ⟨m, hm⟩ : ∃ m, fold l = m := ⟨_, rfl⟩
    have hml : m.length = l.length := by rw [← hm, fold_len]
    have c2 : ACalls _ _ [strT m, .int .u8 46] _ := partsOf_v (l := m) (u := 46) (by omega)
    have hs := split_len 46 m
    have es : canonF l = if (split 46 m).all label then (m, 0) else ([], 1) := by unfold canonF; rw [if_neg h0, hm]
    rw [es]
    rw [hm] at c1
    clear es hm
    generalize split 46 m = xs at *
    have hx : ((xs.map strT).length : Int) = (xs.length : Int) := by simp
    repeat' (first | refine zt ?_ | (refine isR ?_; first | refine zo ?_ | refine zk c1 ?_ | refine zk c2 ?_ | refine zA ?_ | refine zL ?_ | refine zc1 ?_ | refine zc3 ?_ | refine zI ?_ | (refine zs1 ?_ ?_ <;> intro hc) | (refine zs3 ?_ ?_ <;> intro hc)) | refine awp_split rfl (fun hb => ?_) (fun hb => ?_) | refine zr ?_ | exact x_le)
    refine awp_for (fun k => ⟨[(0, strT m), (4, strsT xs), (5, .int .i64 (k : Int))], [], 0, 26⟩) (fun k => k ≤ xs.length ∧ Upto label xs k) xs.length 0 (by exact x_le) ⟨Nat.zero_le _, upto0⟩ ?_
    intro k ⟨hk, hq⟩
    by_cases hk2 : k < xs.length
    · have e1 : (xs.map strT)[k]? = some (strT xs[k]) := by simp [hk2]
      have e2 : xs[k]? = some xs[k] := by simp [hk2]
      generalize xs[k] = x at e1 e2
      have c3 := isLabel_v (l := x)
      repeat' (first | refine zt ?_ | (refine isR ?_; first | refine zo ?_ | refine x_callS (c3 _) (fun hb => ?_) (fun hb => ?_) | refine x_callS (c3) (fun hb => ?_) (fun hb => ?_) | refine zA ?_ | refine zL ?_ | refine zc1 ?_ | refine zc3 ?_ | refine zI ?_ | (refine zs1 ?_ ?_ <;> intro hc) | (refine zs3 ?_ ?_ <;> intro hc)) | refine awp_split rfl (fun hb => ?_) (fun hb => ?_) | refine zr ?_ | exact x_le)
      · exact ⟨⟨by omega, hq.on e2 (by assumption)⟩, by omega, (by exact x_le)⟩
      · rw [all_no e2 (by assumption)]; rfl
    · skip
      repeat' (first | refine zt ?_ | (refine isR ?_; first | refine zo ?_ | refine zA ?_ | refine zL ?_ | refine zc1 ?_ | refine zc3 ?_ | refine zI ?_ | (refine zs1 ?_ ?_ <;> intro hc) | (refine zs3 ?_ ?_ <;> intro hc)) | refine awp_split rfl (fun hb => ?_) (fun hb => ?_) | refine zr ?_ | exact x_le)
      rw [hq.all hk2]; rfl
end Go.Proofs.YtoehdmbogdpncaaGreatDoor.HostB
end
