/- Texts of the proof, joined: Seq, WordW, WordV, Shelf, WordC, Range. -/
import Derived.OrdersHeld
import Derived.KernelRfl
import Derived.Tactics
import Derived.Test.YtkgdkpiacencjaaGreatDoorProg
import Derived.Test.YtkgdkpiacencjaaGreatDoorG9
import Derived.WalkKit
import Derived.WalkLawsBesides
import Derived.WalkSpells
import Derived.Outline
import Derived.Deep.Light
import Derived.LoopTactic
import Derived.IntWalk
import Derived.BigQuiet
import Derived.Laws.IdiomStrings
import Derived.Shelf.Strings.Trim
import Derived.Shelf.Small.Utf8
import Derived.Shelf.Small.Strs
import Derived.Shelf.Small.Wraps
import Derived.Shelf.Strconv.Atoi
import Derived.Shelf.Strconv.Itoa0
import Derived.Shelf.Strconv.Itoa1
import Derived.Shelf.LaysM
import Derived.Shelf.Strconv.Itoa2
import Derived.Shelf.Strconv.Itoa3
import Derived.Shelf.Strconv.AtoiErrFast
import Derived.Shelf.Strconv.ParseIntEmpty
import Derived.Shelf.Strconv.AtoiFail
import Derived.Shelf.Strconv.Clone
import Derived.Shelf.Strconv.SyntaxError
import Derived.Shelf.LaysC
import Derived.Shelf.Strconv.ToError
import Derived.Shelf.Strconv.AtoiErr
import Derived.Shelf.Strconv.ErrVar
import Derived.Shelf.Strconv.Lower
import Derived.Shelf.Strconv.ParseUint10
import Derived.Shelf.Strconv.ParseUint10Empty
import Derived.Shelf.Strconv.ParseUint10Any
import Derived.Shelf.Strconv.ParseInt10
import Derived.Shelf.Strconv.AtoiLong
import Derived.Shelf.Strconv.AtoiInnerAll
import Derived.Shelf.Strconv.RangeError
import Derived.Shelf.Strconv.ToErrorRange
import Derived.Shelf.Strconv.AtoiAll
import Derived.Shelf.Strconv.ErrVarAll
import Derived.Shelf.Strconv.ParseUintEmpty
import Derived.Shelf.Strconv.ParseUint10b64
import Derived.Shelf.Strconv.ParseUint10b32
import Derived.Shelf.Strconv.ParseUint10b16
import Derived.Shelf.Strconv.ParseUint10b8
import Derived.Shelf.Strconv.ParseUint10At
import Derived.Shelf.Strconv.ParseInt10At64
import Derived.Shelf.Strconv.ParseInt10At32
import Derived.Shelf.Strconv.ParseInt10At16
import Derived.Shelf.Strconv.ParseInt10At8
import Derived.Shelf.Strconv.ParseInt10All
import Derived.Shelf.Strings.Search1
import Derived.Shelf.Strings.Search2
import Derived.Shelf.Strings.Search3
import Derived.Shelf.Strings.Shaped
import Derived.Shelf.Strings.LastIndex
import Derived.Shelf.GgClosure.StringsIndexFunc
import Derived.Ground.GgwProg
import Derived.Shelf.GgClosure.StringsIndexFuncTop
import Derived.Shelf.GgClosure.StringsRunes
import Derived.Shelf.Strings.Prefix
import Derived.Shelf.Unicode.Decode
import Derived.Shelf.Strings.Runes
import Derived.Shelf.Strings.AsciiSet
import Derived.Shelf.Unicode.DecodeSlow
import Derived.Shelf.Unicode.DecodeAny
import Derived.Shelf.Unicode.DecodeLast
import Derived.Shelf.Strings.FieldsFuncAny
import Derived.Shelf.Strings.FuncGrows
import Derived.Shelf.Strings.FieldsFuncGrows
import Derived.Ground.PaProg
import Derived.Shelf.Path.Small
import Derived.Shelf.Strings.SlTrimAscii
import Derived.RangeFuncFrom
import Derived.RangeFuncNested
import Derived.Test.YtkgdkpiacencjaaGreatDoorG1
section
namespace Go.Proofs.YtkgdkpiacencjaaGreatDoor.Seq
section
variable {P : Program} {ops : Array Oper} {Q : Exit → Act → World → Prop} {S : World → Prop} {E : Act → World → Prop}

/-- The operations in the plan's order; behind them E. -/
def wpSeq (P : Program) (ops : Array Oper) (Q : Exit → Act → World → Prop) (S : World → Prop) (E : Act → World → Prop) : List (Oper × Bool) → Act → World → Prop
  | [], a, w => E a w
  | (o, false) :: r, a, w => ∃ v, YieldsIf P ops S o v a ∧ wpSeq P ops Q S E r (a.put o.dst v) w
  | (o, true) :: r, a, w => (Region.wanted o (yielded ops a.tmps) = true ∧ o.wp P a w (fun a' w' => S w' ∧ wpSeq P ops Q S E r a' w') Q) ∨ (Region.wanted o (yielded ops a.tmps) = false ∧ S w ∧ wpSeq P ops Q S E r (a.put o.dst undef) w)

def lay (ops : List Oper) : List (Nat × Bool) → List (Oper × Bool)
  | [] => []
  | (i, b) :: r => match ops[i]? with
    | some o => (o, b) :: lay ops r
    | none => lay ops r

/-- The plan may be gone; what is listed behind it. -/
def planTo (ops : Array Oper) : List (Nat × Bool) → Array Bool → Array Bool → Bool
  | [], l, m => l == m
  | (i, false) :: r, l, m => Region.free .any ops l i && (Region.ready .any ops l).contains i && planTo ops r (l.setIfInBounds i true) m
  | (i, true) :: r, l, m => Region.ready .any ops l == [i] && planTo ops r (l.setIfInBounds i true) m
def planOk (ops : Array Oper) : List (Nat × Bool) → Array Bool → Bool
  | [], l => (Region.ready .any ops l).isEmpty
  | (i, false) :: r, l => Region.free .any ops l i && (Region.ready .any ops l).contains i && planOk ops r (l.setIfInBounds i true)
  | (i, true) :: r, l => Region.ready .any ops l == [i] && planOk ops r (l.setIfInBounds i true)

theorem seq_gen (hs : Region.noSelect ops = true) (hQ : ∀ c a d v w, Q (.panic c) (a.put d v) w → Q (.panic c) a w) (good : List (Nat × Bool) → Array Bool → Bool) (n : Nat)
    (h0 : ∀ l a w, good [] l = true → S w → E a w → wpAnyH P .any ops Q S n l a w)
    (h1 : ∀ i r l, good ((i, false) :: r) l = (Region.free .any ops l i && (Region.ready .any ops l).contains i && good r (l.setIfInBounds i true)))
    (h2 : ∀ i r l, good ((i, true) :: r) l = (Region.ready .any ops l == [i] && good r (l.setIfInBounds i true))) :
    ∀ (plan : List (Nat × Bool)) (listed : Array Bool) (a : Act) (w : World), good plan listed = true → S w → wpSeq P ops Q S E (lay ops.toList plan) a w → wpAnyH P .any ops Q S (plan.length + n) listed a w
  | [], listed, a, w, hp, hS, h => by
    rw [List.length_nil, Nat.zero_add]; exact h0 _ _ _ hp hS h
  | (i, false) :: r, listed, a, w, hp, hS, h => by
    rw [h1] at hp
    simp only [Bool.and_eq_true] at hp
    obtain ⟨⟨hf, hr⟩, hp⟩ := hp
    obtain ⟨_, oi, hoi, _⟩ := mem_ready.1 (show i ∈ Region.ready .any ops listed by simpa using hr)
    have e : lay ops.toList ((i, false) :: r) = (oi, false) :: lay ops.toList r := by simp only [lay, Array.getElem?_toList, hoi]
    rw [e] at h
    obtain ⟨v, hy, h⟩ := h
    rw [List.length_cons, Nat.add_right_comm]
    exact wpAnyH_take hoi hs hf hr (fun c a w => hQ c a _ v w) hy hS (seq_gen hs hQ good n h0 h1 h2 r _ _ _ hp hS h)
  | (i, true) :: r, listed, a, w, hp, hS, h => by
    rw [h2] at hp
    simp only [Bool.and_eq_true, beq_iff_eq] at hp
    obtain ⟨hr, hp⟩ := hp
    obtain ⟨_, oi, hoi, _⟩ := mem_ready.1 (show i ∈ Region.ready .any ops listed by rw [hr]; simp)
    have e : lay ops.toList ((i, true) :: r) = (oi, true) :: lay ops.toList r := by simp only [lay, Array.getElem?_toList, hoi]
    rw [e] at h
    rw [List.length_cons, Nat.add_right_comm]
    refine ⟨fun h0 => (by rw [hr] at h0; cases h0), fun j hj => ?_⟩
    rw [hr, List.mem_singleton] at hj
    subst hj
    unfold wpOp
    simp only [hoi]
    rcases h with ⟨hw, h⟩ | ⟨hw, hS', h⟩
    · rw [if_pos hw]
      exact .inl (Oper.wp_mono (fun a' w' ⟨h3, h4⟩ => ⟨h3, seq_gen hs hQ good n h0 h1 h2 r _ _ _ hp h3 h4⟩) h)
    · rw [if_neg (by rw [hw]; decide)]
      exact ⟨hS', seq_gen hs hQ good n h0 h1 h2 r _ _ _ hp hS' h⟩

theorem seq_held (hs : Region.noSelect ops = true) (hQ : ∀ c a d v w, Q (.panic c) (a.put d v) w → Q (.panic c) a w) (plan : List (Nat × Bool)) (listed : Array Bool) (a : Act) (w : World) (hp : planOk ops plan listed = true) (hS : S w)
    (h : wpSeq P ops Q S (Q .normal) (lay ops.toList plan) a w) : wpAnyH P .any ops Q S plan.length listed a w :=
  seq_gen hs hQ (planOk ops) 0 (fun _ _ _ hp _ h => ⟨List.isEmpty_iff.1 hp, h⟩) (fun _ _ _ => rfl) (fun _ _ _ => rfl) plan listed a w hp hS h

/-- THE BEGINNING. -/
theorem region_seq (plan : List (Nat × Bool)) {id : Nat} {a : Act} {w : World} (hm : P.follows .mixedOrders = true)
    (hok : (Region.noSelect ops && (plan.length == ops.size && planOk ops plan (Array.replicate ops.size false))) = true)
    (hQ : ∀ c a d v w, Q (.panic c) (a.put d v) w → Q (.panic c) a w) (hS : S w.drew)
    (h : wpSeq P ops Q S (Q .normal) (lay ops.toList plan) a w.drew) : (Code.region id ops true).wp P Q a w := by
  simp only [Bool.and_eq_true, beq_iff_eq] at hok
  obtain ⟨hs, hl, hp⟩ := hok
  refine wp_region_held (S := S) hm ?_
  have := seq_held hs hQ plan _ a w.drew hp hS h
  rw [hl] at this
  exact this

/-- THE BEGINNING, where the order parts behind the plan: n operations are left, m is listed. -/
theorem region_part (plan : List (Nat × Bool)) (m : Array Bool) (n : Nat) {id : Nat} {a : Act} {w : World} (hm : P.follows .mixedOrders = true)
    (hok : (Region.noSelect ops && (plan.length + n == ops.size && planTo ops plan (Array.replicate ops.size false) m)) = true)
    (hQ : ∀ c a d v w, Q (.panic c) (a.put d v) w → Q (.panic c) a w) (hS : S w.drew)
    (h : wpSeq P ops Q S (fun a' w' => wpAnyH P .any ops Q S n m a' w') (lay ops.toList plan) a w.drew) : (Code.region id ops true).wp P Q a w := by
  simp only [Bool.and_eq_true, beq_iff_eq] at hok
  obtain ⟨hs, hl, hp⟩ := hok
  refine wp_region_held (S := S) hm ?_
  have := seq_gen (E := fun a' w' => wpAnyH P .any ops Q S n m a' w') hs hQ (fun p l => planTo ops p l m) n (fun l a w hp _ h => by
    simp only [planTo, beq_iff_eq] at hp
    subst hp
    exact h) (fun _ _ _ => rfl) (fun _ _ _ => rfl) plan _ a w.drew hp hS h
  rw [hl] at this
  exact this
/-- Where two may come up. -/
theorem either (i j : Nat) (oi oj : Oper) {n : Nat} {m : Array Bool} {a : Act} {w : World} (hr : (Region.ready .any ops m == [i, j]) = true) (hi : ops[i]? = some oi) (hj : ops[j]? = some oj)
    (wi : Region.wanted oi (yielded ops a.tmps) = true) (wj : Region.wanted oj (yielded ops a.tmps) = true)
    (h1 : ∀ K : Act → World → Prop, (∀ a' w', S w' → wpAnyH P .any ops Q S n (m.setIfInBounds i true) a' w' → K a' w') → oi.wp P a w K Q)
    (h2 : ∀ K : Act → World → Prop, (∀ a' w', S w' → wpAnyH P .any ops Q S n (m.setIfInBounds j true) a' w' → K a' w') → oj.wp P a w K Q) : wpAnyH P .any ops Q S (n + 1) m a w := by
  simp only [beq_iff_eq] at hr
  refine ⟨fun h0 => (by rw [hr] at h0; cases h0), fun k hk => ?_⟩
  rw [hr] at hk
  simp only [List.mem_cons, List.not_mem_nil, or_false] at hk
  unfold wpOp
  rcases hk with rfl | rfl
  · simp only [hi]; rw [if_pos wi]; exact .inl (h1 _ fun _ _ a b => ⟨a, b⟩)
  · simp only [hj]; rw [if_pos wj]; exact .inl (h2 _ fun _ _ a b => ⟨a, b⟩)
/-- On in one order. -/
theorem on_seq (plan : List (Nat × Bool)) {m : Array Bool} {n : Nat} {a : Act} {w : World} (hok : (Region.noSelect ops && (plan.length == n && planOk ops plan m)) = true)
    (hQ : ∀ c a d v w, Q (.panic c) (a.put d v) w → Q (.panic c) a w) (hS : S w) (h : wpSeq P ops Q S (Q .normal) (lay ops.toList plan) a w) : wpAnyH P .any ops Q S n m a w := by
  simp only [Bool.and_eq_true, beq_iff_eq] at hok
  obtain ⟨hs, hl, hp⟩ := hok
  have := seq_held hs hQ plan m a w hp hS h
  rwa [hl] at this

theorem seq_nil {a : Act} {w : World} (h : E a w) : wpSeq P ops Q S E [] a w := h
theorem seq_skip {o : Oper} {r : List (Oper × Bool)} {a : Act} {w : World} (hw : Region.wanted o (yielded ops a.tmps) = false) (h : wpSeq P ops Q S E r (a.put o.dst undef) w) : wpSeq P ops Q S E ((o, false) :: r) a w := ⟨undef, .inr ⟨hw, rfl⟩, h⟩
theorem seq_read {o : Oper} {r : List (Oper × Bool)} {a : Act} {w : World} {v : Value} (hw : Region.wanted o (yielded ops a.tmps) = true)
    (hy : ∀ w', S w' → (execOp a.eval o).run P w' = .ok (.value v) w') (h : wpSeq P ops Q S E r (a.put o.dst v) w) : wpSeq P ops Q S E ((o, false) :: r) a w := ⟨v, .inl ⟨hw, hy⟩, h⟩
theorem seq_off {o : Oper} {r : List (Oper × Bool)} {a : Act} {w : World} (hw : Region.wanted o (yielded ops a.tmps) = false) (hS : S w) (h : wpSeq P ops Q S E r (a.put o.dst undef) w) : wpSeq P ops Q S E ((o, true) :: r) a w := .inr ⟨hw, hS, h⟩
theorem seq_do {o : Oper} {r : List (Oper × Bool)} {a : Act} {w : World} (hw : Region.wanted o (yielded ops a.tmps) = true)
    (h : ∀ K : Act → World → Prop, (∀ a' w', S w' → wpSeq P ops Q S E r a' w' → K a' w') → o.wp P a w K Q) : wpSeq P ops Q S E ((o, true) :: r) a w := .inl ⟨hw, h _ fun _ _ h1 h2 => ⟨h1, h2⟩⟩
end
end Go.Proofs.YtkgdkpiacencjaaGreatDoor.Seq
end

section
namespace Go.Proofs.YtkgdkpiacencjaaGreatDoor.WordW
open Go.RowKit Mem WordP OneB

theorem take_snocB (s : ByteArray) (k : Nat) (h : k < s.size) : s.data.toList.take (k + 1) = s.data.toList.take k ++ [s[k]] := by
  rw [List.take_succ_eq_append_getElem (by simpa using h)]; rfl
theorem drop_consB (s : ByteArray) (k : Nat) (h : k < s.size) : s.data.toList.drop k = s[k] :: s.data.toList.drop (k + 1) := List.drop_eq_getElem_cons (by simpa using h)
theorem mkB (s : ByteArray) : (⟨s.data.toList.toArray⟩ : ByteArray) = s := by apply ByteArray.ext; simp
def str (l : List UInt8) : ByteArray := ⟨l.toArray⟩
theorem str_app (a : List UInt8) (c : UInt8) : str (a ++ [c]) = str a ++ ⟨#[c]⟩ := by
  apply ByteArray.ext; simp [str, ByteArray.data_append]
theorem str_size (l : List UInt8) : (str l).size = l.length := by simp [str, ByteArray.size]

theorem setCell_marked (w : World) (g i : Nat) (cs : Array Value) (t : TypeId) (fr : Nat × Nat) (v : Value) (hg : w.heap[g]? = some (.cells cs t fr)) :
    (w.setCell ⟨g, i, none⟩ v).heap[g]? = some (.cells (cs.setIfInBounds i v) t fr) := by
  rw [setCell_eq_setRow w g i cs t fr v hg]
  exact setRow_heap w g cs _ t _ hg
/-- The bytes of a conversion, the first k of them folded. -/
def HalfRow (w : World) (g : Nat) (s : ByteArray) (k : Nat) : Prop :=
  ∃ C : Array Value, w.heap[g]? = some (.cells C 5 (C.size, C.size + 1)) ∧ s.size ≤ C.size ∧ ∀ j (hj : j < s.size), C[j]? = some (.int .u8 ((if j < k then foldB s[j] else s[j]).toNat : Int))
theorem half_cell {w : World} {g : Nat} {s : ByteArray} {k : Nat} (h : HalfRow w g s k) (j : Nat) (hj : j < s.size) : w.cell? ⟨g, j, none⟩ = some (.int .u8 ((if j < k then foldB s[j] else s[j]).toNat : Int)) ∧ w.frozen? ⟨g, j, none⟩ = false := by
  obtain ⟨C, h1, h2, h3⟩ := h
  have h4 := h3 j hj
  constructor
  · simp [World.cell?, h1, h4]
  · simp [World.frozen?, h1]; omega
theorem half_set {w : World} {g : Nat} {s : ByteArray} {k : Nat} (h : HalfRow w g s k) (hk : k < s.size) : HalfRow (w.setCell ⟨g, k, none⟩ (.int .u8 ((foldB s[k]).toNat : Int))) g s (k + 1) := by
  obtain ⟨C, h1, h2, h3⟩ := h
  refine ⟨C.setIfInBounds k (.int .u8 ((foldB s[k]).toNat : Int)), ?_, by simpa using h2, fun j hj => ?_⟩
  · have h4 := setCell_marked w g k _ _ _ (.int .u8 ((foldB s[k]).toNat : Int)) h1
    simpa using h4
  · by_cases e : j = k
    · subst e
      rw [Array.getElem?_setIfInBounds_self_of_lt (by omega), if_pos (by omega)]
    · rw [Array.getElem?_setIfInBounds_ne (by omega), h3 j hj]
      by_cases hlt : j < k
      · rw [if_pos hlt, if_pos (by omega)]
      · rw [if_neg hlt, if_neg (by omega)]
theorem half_keep {w : World} {g : Nat} {s : ByteArray} {k : Nat} (h : HalfRow w g s k) (hk : k < s.size) (he : foldB s[k] = s[k]) : HalfRow w g s (k + 1) := by
  obtain ⟨C, h1, h2, h3⟩ := h
  refine ⟨C, h1, h2, fun j hj => ?_⟩
  rw [h3 j hj]
  by_cases e : j = k
  · subst e; rw [if_neg (by omega), if_pos (by omega), he]
  · by_cases hlt : j < k
    · rw [if_pos hlt, if_pos (by omega)]
    · rw [if_neg hlt, if_neg (by omega)]
set_option maxHeartbeats 2000000 in
theorem fold_any (s : ByteArray) (w : World) (hs : s.size ≤ 4611686018427387904) :
    Calls Tryz.prog 66 #[.string s] w (Gives (.string (str (fold s.data.toList))) w) := by
  have kc := fun (w : World) (s : ByteArray) => run_bytes_of_string (P := Tryz.prog) w 9 60 5 s Tryz.underlying9 Tryz.underlying60 Tryz.underlying5
  have kb := fun (w : World) (g cap : Nat) (l : List UInt8) h => run_convert_bytes_back (P := Tryz.prog) w 60 9 5 ⟨g, 0, none⟩ cap l Tryz.underlying60 Tryz.underlying5 Tryz.underlying9 h
  have KB := Lib.hid kb
  clear kb
  go_enter Tryz.func66, Tryz.ntmps66
  go_wp2_with fail
  have hrow : HalfRow (w.alloc (.cells (bytesRow s (grownCap w s.size 0 5)) 5 ((bytesRow s (grownCap w s.size 0 5)).size, (bytesRow s (grownCap w s.size 0 5)).size + 1))).drew w.heap.size s 0 := by
    refine ⟨_, heap_alloc_new w _, by simp [bytesRow], fun j hj => ?_⟩
    rw [bytesRow_at s _ j (by simpa using hj), if_neg (by omega)]; rfl
  have hb0 : Below w.heap.size w (w.alloc (.cells (bytesRow s (grownCap w s.size 0 5)) 5 ((bytesRow s (grownCap w s.size 0 5)).size, (bytesRow s (grownCap w s.size 0 5)).size + 1))).drew := ((Below.refl _ w).alloc (Nat.le_refl _) _).drew
  generalize (w.alloc (.cells (bytesRow s (grownCap w s.size 0 5)) 5 ((bytesRow s (grownCap w s.size 0 5)).size, (bytesRow s (grownCap w s.size 0 5)).size + 1))).drew = w1 at hrow hb0 ⊢
  generalize grownCap w s.size 0 5 = C
  clear kc
  go_loopw [10] (fun i wr => ∃ k : Nat, k ≤ s.size ∧ i = .int .i64 k ∧ HalfRow wr w.heap.size s k ∧ Below w.heap.size w wr) (fun i _ => s.size - (intOf i).toNat)
  case atStart => exact ⟨0, Nat.zero_le _, rfl, hrow, hb0⟩
  case round =>
    obtain ⟨k, hk, rfl, hh, hb⟩ := hrel
    by_cases hlt : k < s.size
    · obtain ⟨c0, f0⟩ := half_cell hh k hlt
      rw [if_neg (by omega)] at c0
      have hc256 : s[k].toNat < 256 := UInt8.toNat_lt _
      have hnat := foldB_nat s[k]
      have HH := Lib.hid hh
      have hk1 : (0 : Int) ≤ (k : Int) := by omega
      have hk2 : (k : Int) < (s.size : Int) := by omega
      by_cases hup : 65 ≤ s[k].toNat ∧ s[k].toNat ≤ 90
      · have hset := half_set hh hlt
        rw [if_pos hup] at hnat
        have hi : ((foldB s[k]).toNat : Int) = (s[k].toNat : Int) + 32 := by omega
        rw [hi] at hset
        have HS := Lib.hid hset
        obtain ⟨u1, u2⟩ := hup
        clear hset hh hnat hi
        generalize s[k] = c at c0 hc256 u1 u2 HS
        go_wp2_with fail
        go_roundw
        case rel => exact ⟨k + 1, by omega, by go_num, HS.out, hb.setCell (Nat.le_refl _) _⟩
        case measure => simp [intOf]; omega
      · have hkeep : foldB s[k] = s[k] := by
          rw [if_neg hup] at hnat
          exact UInt8.toNat_inj.1 hnat
        have HS := Lib.hid (half_keep hh hlt hkeep)
        clear hkeep hh hnat
        generalize s[k] = c at c0 hc256 hup
        by_cases u1 : 65 ≤ c.toNat
        · have u2 : ¬ c.toNat ≤ 90 := fun h => hup ⟨u1, h⟩
          clear hup
          go_wp2_with fail
          go_roundw
          case rel => exact ⟨k + 1, by omega, by go_num, HS.out, hb⟩
          case measure => simp [intOf]; omega
        · have u3 : decide ((65 : Int) ≤ (c.toNat : Int)) = false := by simp; omega
          clear hup
          go_wp2_with fail
          go_roundw
          case rel => exact ⟨k + 1, by omega, by go_num, HS.out, hb⟩
          case measure => simp [intOf]; omega
    · obtain rfl : k = s.size := by omega
      have kb := KB.out wr w.heap.size C (fold s.data.toList) (fun j hj => by
        have hj' : j < s.size := by simpa [fold] using hj
        obtain ⟨c0, _⟩ := half_cell hh j hj'
        rw [if_pos hj'] at c0
        have e : (⟨w.heap.size, 0, none⟩ : Addr).add j = ⟨w.heap.size, j, none⟩ := by
          unfold Addr.add
          split
          · subst_vars; rfl
          · simp
        rw [e, c0]
        simp [fold]; rfl)
      have e : (fold s.data.toList).length = s.size := by simp [fold]
      rw [e] at kb
      clear hh hrow
      go_wp2_with fail
      go_ret
      exact ⟨rfl, hb⟩
end Go.Proofs.YtkgdkpiacencjaaGreatDoor.WordW
end

section
namespace Go.Proofs.YtkgdkpiacencjaaGreatDoor.WordV
open Go.RowKit Mem WordP OneB WordW WordS

theorem ext_drop (s : ByteArray) (k : Nat) : (s.extract k s.size).data.toList = s.data.toList.drop k := by
  simp [ByteArray.data_extract]
  exact List.take_of_length_le (by simp)
theorem len0 (t : ByteArray) (h : t.size = 0) : t.data.toList = [] := List.eq_nil_of_length_eq_zero (by simpa using h)
theorem ext_take (s : ByteArray) (k : Nat) : (s.extract 0 k).data.toList = s.data.toList.take k := by
  simp [ByteArray.data_extract]
set_option maxHeartbeats 1000000 in
theorem foldOf_any (s : ByteArray) (w : World) (hs : s.size ≤ 4611686018427387904) :
    Calls Tryz.prog 18 #[.string s] w (Gives (.string (str (fold s.data.toList))) w) := by
  go_enter Tryz.func18, Tryz.ntmps18
  go_wp2_with fail
  go_loopw [3, 4] (fun v i wr => ∃ k : Nat, k ≤ s.size ∧ i = .int .i64 k ∧ v = .string (str (fold (s.data.toList.take k))) ∧ Below w.heap.size w wr) (fun _ i _ => s.size - (intOf i).toNat)
  case atStart => exact ⟨0, Nat.zero_le _, rfl, rfl, Below.refl _ _⟩
  case round =>
    obtain ⟨k, hk, rfl, rfl, hb⟩ := hrel
    by_cases hlt : k < s.size
    · have htk := take_snocB s k hlt
      have hc256 : s[k].toNat < 256 := UInt8.toNat_lt _
      have hnat := foldB_nat s[k]
      have hfs : str (fold (s.data.toList.take (k + 1))) = str (fold (s.data.toList.take k)) ++ ⟨#[foldB s[k]]⟩ := by rw [htk, fold_app, ← str_app]; rfl
      have hsz : (str (fold (s.data.toList.take k))).size ≤ s.size := by rw [str_size]; simp [fold]; omega
      have HFS := Lib.hid hfs
      clear hfs htk
      have hk1 : (0 : Int) ≤ (k : Int) := by omega
      have hk2 : (k : Int) < (s.size : Int) := by omega
      generalize str (fold (s.data.toList.take k)) = acc at hsz HFS ⊢
      by_cases hup : 65 ≤ s[k].toNat ∧ s[k].toNat ≤ 90
      · rw [if_pos hup] at hnat
        have hof : UInt8.ofNat ((s[k].toNat : Int) + 32).toNat = foldB s[k] := by
          apply UInt8.toNat_inj.1; rw [hnat, UInt8.toNat_ofNat']; omega
        have HOF := Lib.hid hof
        obtain ⟨u1, u2⟩ := hup
        clear hof hnat
        go_wp2_with fail
        with_reducible refine (oneByte_any _ _ (by omega) (by omega)).mono ?_
        rintro e w1 ⟨rfl, hb1⟩
        rw [HOF.out]
        go_wp2_with fail
        go_roundw
        case rel => exact ⟨k + 1, by omega, by go_num, by rw [HFS.out], below_cat hb hb1⟩
        case measure => simp [intOf]; omega
      · rw [if_neg hup] at hnat
        have hof : UInt8.ofNat ((s[k].toNat : Int)).toNat = foldB s[k] := by
          apply UInt8.toNat_inj.1; rw [hnat, UInt8.toNat_ofNat']; omega
        have HOF := Lib.hid hof
        clear hof hnat
        by_cases u1 : 65 ≤ s[k].toNat
        · have u2 : ¬ s[k].toNat ≤ 90 := fun h => hup ⟨u1, h⟩
          clear hup
          go_wp2_with fail
          with_reducible refine (oneByte_any _ _ (by omega) (by omega)).mono ?_
          rintro e w1 ⟨rfl, hb1⟩
          rw [HOF.out]
          go_wp2_with fail
          go_roundw
          case rel => exact ⟨k + 1, by omega, by go_num, by rw [HFS.out], below_cat hb hb1⟩
          case measure => simp [intOf]; omega
        · have u3 : decide ((65 : Int) ≤ (s[k].toNat : Int)) = false := by simp; omega
          clear hup
          go_wp2_with fail
          with_reducible refine (oneByte_any _ _ (by omega) (by omega)).mono ?_
          rintro e w1 ⟨rfl, hb1⟩
          rw [HOF.out]
          go_wp2_with fail
          go_roundw
          case rel => exact ⟨k + 1, by omega, by go_num, by rw [HFS.out], below_cat hb hb1⟩
          case measure => simp [intOf]; omega
    · obtain rfl : k = s.size := by omega
      rw [List.take_of_length_le (by simp)]
      go_wp2_with fail
      go_ret
      exact ⟨rfl, hb⟩

theorem isBlank_any (c : UInt8) (w : World) : Calls Tryz.prog 132 #[.int .u8 c.toNat] w (fun e w' => e = .returned (.bool (blankB c)) ∧ w = w') := by
  have hc : c.toNat < 256 := UInt8.toNat_lt _
  unfold blankB
  by_cases h1 : c.toNat = 32
  · have h2 : ((c.toNat : Int) == 32) = true := by simp [h1]
    have e : (c.toNat == 32 || c.toNat == 9) = true := by simp [h1]
    rw [e]
    clear h1 e
    go_enter Tryz.func132, Tryz.ntmps132
    go_wp2_with fail
    go_ret
    exact ⟨rfl, rfl⟩
  · have h2 : ((c.toNat : Int) == 32) = false := by simp; omega
    by_cases h3 : c.toNat = 9
    · have h4 : ((c.toNat : Int) == 9) = true := by simp [h3]
      have e : (c.toNat == 32 || c.toNat == 9) = true := by simp [h3]
      rw [e]
      clear h1 h3 e
      go_enter Tryz.func132, Tryz.ntmps132
      go_wp2_with fail
      go_ret
      exact ⟨rfl, rfl⟩
    · have h4 : ((c.toNat : Int) == 9) = false := by simp; omega
      have e : (c.toNat == 32 || c.toNat == 9) = false := by simp [h1, h3]
      rw [e]
      clear h1 h3 e
      go_enter Tryz.func132, Tryz.ntmps132
      go_wp2_with fail
      go_ret
      exact ⟨rfl, rfl⟩

theorem snoc_last (t : ByteArray) (h : 0 < t.size) : t.data.toList = t.data.toList.take (t.size - 1) ++ [t[t.size - 1]'(by omega)] := by
  have := take_snocB t (t.size - 1) (by omega)
  rw [show t.size - 1 + 1 = t.size from by omega, List.take_of_length_le (by simp)] at this
  exact this
theorem rdrop_snoc (p : UInt8 → Bool) (l : List UInt8) (c : UInt8) : rdrop p (l ++ [c]) = if p c then rdrop p l else l ++ [c] := by
  unfold rdrop
  rw [List.reverse_append, List.reverse_singleton, List.singleton_append, List.dropWhile_cons]
  cases p c <;> simp
set_option maxHeartbeats 2000000 in
theorem trimOf_any (s : ByteArray) (w : World) (hs : s.size ≤ 4611686018427387904) :
    Calls Tryz.prog 108 #[.string s] w (fun e w' => e = .returned (.string (str (trim s.data.toList))) ∧ w = w') := by
  go_enter Tryz.func108, Tryz.ntmps108
  go_wp2_with fail
  go_loop [0] (fun v => ∃ t : ByteArray, v = .string t ∧ t.size ≤ s.size ∧ t.data.toList.dropWhile blankB = s.data.toList.dropWhile blankB) (fun v => match v with | .string t => t.size | _ => 0)
  case atStart => exact ⟨s, rfl, Nat.le_refl _, rfl⟩
  case round =>
    obtain ⟨t, rfl, htz, hdw⟩ := hrel
    have HDW := Lib.hid hdw
    clear hdw
    by_cases h0 : 0 < t.size
    · have hd := drop_consB t 0 h0
      rw [List.drop_zero] at hd
      have hx := ext_drop t 1
      have HD := Lib.hid hd; have HX := Lib.hid hx
      have h00 : (t.size : Int) > 0 := by omega
      have CB := Lib.hid (fun w' => isBlank_any t[0] w')
      clear hd hx
      cases hbl : blankB t[0] with
      | true =>
        rw [hbl] at CB
        have HB := Lib.hid hbl
        clear hbl
        have h1 : 1 ≤ t.size := by omega
        go_wp2_with fail
        with_reducible refine (CB.out _).mono ?_
        rintro e w1 ⟨rfl, rfl⟩
        go_wp2_with fail
        go_round
        case rel =>
          refine ⟨_, rfl, by simp; omega, ?_⟩
          rw [HX.out, ← HDW.out, HD.out, List.dropWhile_cons, HB.out]
          simp
        case measure => simp; omega
      | false =>
        rw [hbl] at CB
        have hfin : t.data.toList = s.data.toList.dropWhile blankB := by
          rw [← HDW.out, HD.out, List.dropWhile_cons, hbl]; simp
        have HF := Lib.hid hfin
        clear hfin hbl
        go_wp2_with fail
        with_reducible refine (CB.out _).mono ?_
        rintro e w1 ⟨rfl, rfl⟩
        go_wp2_with fail
        go_loop [0] (fun v => ∃ t2 : ByteArray, v = .string t2 ∧ t2.size ≤ s.size ∧ rdrop blankB t2.data.toList = trim s.data.toList) (fun v => match v with | .string t2 => t2.size | _ => 0)
        case atStart => exact ⟨t, rfl, htz, by rw [HF.out]; rfl⟩
        case round =>
          clear htz HF
          obtain ⟨t2, rfl, htz, hrd⟩ := hrel
          have HRD := Lib.hid hrd
          clear hrd
          by_cases g0 : 0 < t2.size
          · have hd := snoc_last t2 g0
            have hx := ext_take t2 (t2.size - 1)
            have HD := Lib.hid hd; have HX := Lib.hid hx
            have g00 : (t2.size : Int) > 0 := by omega
            have g01 : ((t2.size : Int) - 1) = ((t2.size - 1 : Nat) : Int) := by omega
            have CB := Lib.hid (fun w' => isBlank_any (t2[t2.size - 1]'(by omega)) w')
            clear hd hx
            cases hbl : blankB (t2[t2.size - 1]'(by omega)) with
            | true =>
              rw [hbl] at CB
              have HB := Lib.hid hbl
              clear hbl
              go_wp2_with fail
              with_reducible refine (CB.out _).mono ?_
              rintro e w1 ⟨rfl, rfl⟩
              go_wp2_with fail
              go_round
              case rel =>
                refine ⟨_, rfl, by simp; omega, ?_⟩
                rw [HX.out, ← HRD.out, HD.out, rdrop_snoc, HB.out]
                simp
              case measure => simp; omega
            | false =>
              rw [hbl] at CB
              have hfin : str (trim s.data.toList) = t2 := by
                have e := HRD.out
                rw [HD.out, rdrop_snoc, hbl, if_neg (by decide), ← HD.out] at e
                rw [← e]; rfl
              have HF := Lib.hid hfin
              clear hfin hbl
              go_wp2_with fail
              with_reducible refine (CB.out _).mono ?_
              rintro e w1 ⟨rfl, rfl⟩
              go_wp2_with fail
              go_ret
              exact ⟨by rw [HF.out]; rfl, rfl⟩
          · have g00 : ¬ (t2.size : Int) > 0 := by omega
            have hfin : str (trim s.data.toList) = t2 := by
              have e : t2.data.toList = [] := by
                exact len0 _ (by omega)
              rw [← HRD.out, e, rdrop_nil, ← e]; rfl
            have HF := Lib.hid hfin
            clear hfin
            go_wp2_with fail
            go_ret
            exact ⟨by rw [HF.out]; rfl, rfl⟩
    · have h00 : ¬ (t.size : Int) > 0 := by omega
      have hfin : t.data.toList = s.data.toList.dropWhile blankB := by
        have e : t.data.toList = [] := by
          exact len0 _ (by omega)
        rw [← HDW.out, e]; rfl
      have HF := Lib.hid hfin
      clear hfin
      go_wp2_with fail
      go_loop [0] (fun v => ∃ t2 : ByteArray, v = .string t2 ∧ t2.size ≤ s.size ∧ rdrop blankB t2.data.toList = trim s.data.toList) (fun v => match v with | .string t2 => t2.size | _ => 0)
      case atStart => exact ⟨t, rfl, htz, by rw [HF.out]; rfl⟩
      case round =>
        clear htz HF
        obtain ⟨t2, rfl, htz, hrd⟩ := hrel
        have HRD := Lib.hid hrd
        clear hrd
        by_cases g0 : 0 < t2.size
        · have hd := snoc_last t2 g0
          have hx := ext_take t2 (t2.size - 1)
          have HD := Lib.hid hd; have HX := Lib.hid hx
          have g00 : (t2.size : Int) > 0 := by omega
          have g01 : ((t2.size : Int) - 1) = ((t2.size - 1 : Nat) : Int) := by omega
          have CB := Lib.hid (fun w' => isBlank_any (t2[t2.size - 1]'(by omega)) w')
          clear hd hx
          cases hbl : blankB (t2[t2.size - 1]'(by omega)) with
          | true =>
            rw [hbl] at CB
            have HB := Lib.hid hbl
            clear hbl
            go_wp2_with fail
            with_reducible refine (CB.out _).mono ?_
            rintro e w1 ⟨rfl, rfl⟩
            go_wp2_with fail
            go_round
            case rel =>
              refine ⟨_, rfl, by simp; omega, ?_⟩
              rw [HX.out, ← HRD.out, HD.out, rdrop_snoc, HB.out]
              simp
            case measure => simp; omega
          | false =>
            rw [hbl] at CB
            have hfin : str (trim s.data.toList) = t2 := by
              have e := HRD.out
              rw [HD.out, rdrop_snoc, hbl, if_neg (by decide), ← HD.out] at e
              rw [← e]; rfl
            have HF := Lib.hid hfin
            clear hfin hbl
            go_wp2_with fail
            with_reducible refine (CB.out _).mono ?_
            rintro e w1 ⟨rfl, rfl⟩
            go_wp2_with fail
            go_ret
            exact ⟨by rw [HF.out]; rfl, rfl⟩
        · have g00 : ¬ (t2.size : Int) > 0 := by omega
          have hfin : str (trim s.data.toList) = t2 := by
            have e : t2.data.toList = [] := by
              exact len0 _ (by omega)
            rw [← HRD.out, e, rdrop_nil, ← e]; rfl
          have HF := Lib.hid hfin
          clear hfin
          go_wp2_with fail
          go_ret
          exact ⟨by rw [HF.out]; rfl, rfl⟩

def badB : ByteArray := ⟨#[40, 41, 60, 62, 64, 44, 59, 58, 92, 34, 47, 91, 93, 63, 61, 123, 125]⟩
set_option maxHeartbeats 1000000 in
theorem placeOf_any (s : ByteArray) (c : UInt8) (w : World) (hs : s.size ≤ 4611686018427387904) :
    Calls Tryz.prog 51 #[.string s, .int .u8 c.toNat] w (Gives (.int .i64 (Lib.indexByte s.data.toList c)) w) := by
  go_enter Tryz.func51, Tryz.ntmps51
  go_wp2_with fail
  go_loopw [5] (fun i wr => ∃ k : Nat, k ≤ s.size ∧ i = .int .i64 k ∧ (s.data.toList.take k).contains c = false ∧ Below w.heap.size w wr) (fun i _ => s.size - (intOf i).toNat)
  case atStart => exact ⟨0, Nat.zero_le _, rfl, by simp, Below.refl _ _⟩
  case round =>
    obtain ⟨k, hk, rfl, hct, hb⟩ := hrel
    have HC := Lib.hid hct
    clear hct
    by_cases hlt : k < s.size
    · have hk1 : (0 : Int) ≤ (k : Int) := by omega
      have hk2 : (k : Int) < (s.size : Int) := by omega
      by_cases heq : s[k] = c
      · have e1 : ((s[k].toNat : Int) == (c.toNat : Int)) = true := by rw [heq]; simp
        have hres : Lib.indexByte s.data.toList c = (k : Int) := by
          have e : s.data.toList = s.data.toList.take k ++ s.data.toList.drop k := (List.take_append_drop k _).symm
          rw [e, drop_consB s k hlt, heq, index_at _ _ _ HC.out]
          simp; omega
        have HR := Lib.hid hres
        clear hres
        go_wp2_with fail
        go_ret
        exact ⟨by rw [HR.out]; rfl, hb⟩
      · have e1 : ((s[k].toNat : Int) == (c.toNat : Int)) = false := by simp; intro h; exact heq (UInt8.toNat_inj.1 (by omega))
        have hc0 : (s.data.toList.take (k + 1)).contains c = false := by
          rw [take_snocB s k hlt, List.contains_append, HC.out]; simpa using fun e => heq e.symm
        have HC0 := Lib.hid hc0
        clear hc0
        go_wp2_with fail
        go_roundw
        case rel => exact ⟨k + 1, by omega, by go_num, HC0.out, hb⟩
        case measure => simp [intOf]; omega
    · obtain rfl : k = s.size := by omega
      have hct := HC.out
      rw [List.take_of_length_le (by simp)] at hct
      have HR := Lib.hid (index_none _ _ hct)
      clear hct
      go_wp2_with fail
      go_ret
      exact ⟨by rw [HR.out]; rfl, hb⟩
end Go.Proofs.YtkgdkpiacencjaaGreatDoor.WordV
end

section
namespace Go.Proofs
open Go.Shelf
def Tryz.lays160_ren : Go.Shelf.Ren := ⟨fun | 160 => 122 | 232 => 151 | 231 => 150 | 227 => 152 | 234 => 154 | 233 => 153 | 236 => 156 | 235 => 155 | 228 => 172 | 271 => 175 | 151 => 174 | 197 => 173 | 120 => 185 | 152 => 184 | 260 => 183 | 137 => 121 | 119 => 188 | 224 => 141 | 225 => 140 | 217 => 139 | 266 => 163 | n => n, fun | 9 => 9 | 4 => 4 | 3 => 3 | 5 => 5 | 117 => 148 | 116 => 147 | 0 => 0 | 124 => 151 | 21 => 21 | 105 => 173 | 46 => 137 | 119 => 187 | 139 => 190 | 138 => 189 | n => n, fun | 3 => 4 | 4 => 5 | n => n⟩
theorem Tryz.lays160 : Go.Proofs.Lays.n160 Tryz.prog Tryz.lays160_ren := {
  mixed := by kernel_rfl
  f119 := Tryz.func188.trans (congrArg some (by kernel_rfl))
  f120 := Tryz.func185.trans (congrArg some (by kernel_rfl))
  f137 := Tryz.func121.trans (congrArg some (by kernel_rfl))
  f151 := Tryz.func174.trans (congrArg some (by kernel_rfl))
  f152 := Tryz.func184.trans (congrArg some (by kernel_rfl))
  f160 := Tryz.func122.trans (congrArg some (by kernel_rfl))
  f197 := Tryz.func173.trans (congrArg some (by kernel_rfl))
  f217 := Tryz.func139.trans (congrArg some (by kernel_rfl))
  f224 := Tryz.func141.trans (congrArg some (by kernel_rfl))
  f225 := Tryz.func140.trans (congrArg some (by kernel_rfl))
  f227 := Tryz.func152.trans (congrArg some (by kernel_rfl))
  f228 := Tryz.func172.trans (congrArg some (by kernel_rfl))
  f231 := Tryz.func150.trans (congrArg some (by kernel_rfl))
  f232 := Tryz.func151.trans (congrArg some (by kernel_rfl))
  f233 := Tryz.func153.trans (congrArg some (by kernel_rfl))
  f234 := Tryz.func154.trans (congrArg some (by kernel_rfl))
  f235 := Tryz.func155.trans (congrArg some (by kernel_rfl))
  f236 := Tryz.func156.trans (congrArg some (by kernel_rfl))
  f260 := Tryz.func183.trans (congrArg some (by kernel_rfl))
  f266 := Tryz.func163.trans (congrArg some (by kernel_rfl))
  f271 := Tryz.func175.trans (congrArg some (by kernel_rfl))
  t0 := Tryz.underlying0
  a0 := Tryz.isAgg0
  z0 := Tryz.sizeOf0
  v0 := Tryz.zeroValue0
  t3 := Tryz.underlying3
  a3 := Tryz.isAgg3
  z3 := Tryz.sizeOf3
  v3 := Tryz.zeroValue3
  t4 := Tryz.underlying4
  a4 := Tryz.isAgg4
  z4 := Tryz.sizeOf4
  v4 := Tryz.zeroValue4
  t5 := Tryz.underlying5
  a5 := Tryz.isAgg5
  z5 := Tryz.sizeOf5
  v5 := Tryz.zeroValue5
  t9 := Tryz.underlying9
  a9 := Tryz.isAgg9
  z9 := Tryz.sizeOf9
  v9 := Tryz.zeroValue9
  t21 := Tryz.underlying21
  a21 := Tryz.isAgg21
  z21 := Tryz.sizeOf21
  v21 := Tryz.zeroValue21
  t46 := Tryz.underlying137
  a46 := Tryz.isAgg137
  z46 := Tryz.sizeOf137
  v46 := Tryz.zeroValue137
  t105 := Tryz.underlying173
  a105 := Tryz.isAgg173
  z105 := Tryz.sizeOf173
  v105 := Tryz.zeroValue173
  t116 := Tryz.underlying147
  a116 := Tryz.isAgg147
  z116 := Tryz.sizeOf147
  t117 := Tryz.underlying148
  a117 := Tryz.isAgg148
  z117 := Tryz.sizeOf148
  v117 := Tryz.zeroValue148
  t119 := Tryz.underlying187
  a119 := Tryz.isAgg187
  z119 := Tryz.sizeOf187
  t124 := Tryz.underlying151
  a124 := Tryz.isAgg151
  z124 := Tryz.sizeOf151
  v124 := Tryz.zeroValue151
  t138 := Tryz.underlying189
  a138 := Tryz.isAgg189
  z138 := Tryz.sizeOf189
  v138 := Tryz.zeroValue189
  t139 := Tryz.underlying190
  a139 := Tryz.isAgg190
  z139 := Tryz.sizeOf190
  v139 := Tryz.zeroValue190
  g3 := by kernel_rfl
  g4 := by kernel_rfl }
open Go.RowKit in
def Tryz.lays137_ren : Go.Shelf.Ren := ⟨fun | 137 => 121 | 217 => 139 | 266 => 163 | n => n, fun | 9 => 9 | 5 => 5 | 3 => 3 | n => n, fun | n => n⟩
theorem Tryz.lays137 : Go.Proofs.Lays.n137 Tryz.prog Tryz.lays137_ren := {
  mixed := by kernel_rfl
  f137 := Tryz.func121.trans (congrArg some (by kernel_rfl))
  f217 := Tryz.func139.trans (congrArg some (by kernel_rfl))
  f266 := Tryz.func163.trans (congrArg some (by kernel_rfl))
  t3 := Tryz.underlying3
  a3 := Tryz.isAgg3
  z3 := Tryz.sizeOf3
  v3 := Tryz.zeroValue3
  t5 := Tryz.underlying5
  a5 := Tryz.isAgg5
  z5 := Tryz.sizeOf5
  v5 := Tryz.zeroValue5
  t9 := Tryz.underlying9
  a9 := Tryz.isAgg9
  z9 := Tryz.sizeOf9
  v9 := Tryz.zeroValue9 }
open Go.RowKit in
theorem Tryz.strings_IndexByte (s : ByteArray) (c : Int) (w : World) :
    Calls Tryz.prog 121 #[.string s, .int .u8 c] w fun e w' => e = .returned (.int .i64 (Lib.indexByte s.data.toList c.toNat.toUInt8)) ∧ w' = w := Any.strings_IndexByte Tryz.lays137 s c w
def Tryz.lays103_ren : Go.Shelf.Ren := ⟨fun | 103 => 33 | 210 => 75 | 206 => 82 | n => n, fun | 9 => 9 | 4 => 4 | 24 => 58 | 3 => 3 | n => n, fun | n => n⟩
open Go.RowKit in
def Tryz.lays129_ren : Go.Shelf.Ren := ⟨fun | 129 => 179 | n => n, fun | 53 => 162 | 3 => 3 | 4 => 4 | 46 => 137 | 5 => 5 | 9 => 9 | n => n, fun | n => n⟩
def Tryz.laysM171_ren : Go.Shelf.Ren := ⟨fun | 171 => 93 | 243 => 120 | 246 => 149 | 283 => 168 | 284 => 169 | 285 => 170 | 286 => 171 | 129 => 179 | 317 => 178 | 318 => 180 | 319 => 181 | 320 => 182 | 337 => 186 | 338 => 187 | n => n, fun | 3 => 3 | 9 => 9 | 2 => 2 | 4 => 4 | 171 => 168 | 0 => 0 | 53 => 162 | 37 => 60 | 5 => 5 | 173 => 171 | 212 => 182 | 51 => 159 | 20 => 20 | 213 => 183 | 46 => 137 | 232 => 191 | 233 => 192 | n => n, fun | 17 => 3 | 18 => 6 | 19 => 7 | n => n⟩
theorem Tryz.laysM171 : Go.Proofs.LaysM.n171 Tryz.prog Tryz.laysM171_ren := {
  mixed := by kernel_rfl
  f129 := Tryz.func179.trans (congrArg some (by kernel_rfl))
  f171 := Tryz.func93.trans (congrArg some (by kernel_rfl))
  f243 := Tryz.func120.trans (congrArg some (by kernel_rfl))
  f246 := Tryz.func149.trans (congrArg some (by kernel_rfl))
  f283 := Tryz.func168.trans (congrArg some (by kernel_rfl))
  f284 := Tryz.func169.trans (congrArg some (by kernel_rfl))
  f285 := Tryz.func170.trans (congrArg some (by kernel_rfl))
  f286 := Tryz.func171.trans (congrArg some (by kernel_rfl))
  f317 := Tryz.func178.trans (congrArg some (by kernel_rfl))
  f318 := Tryz.func180.trans (congrArg some (by kernel_rfl))
  f319 := Tryz.func181.trans (congrArg some (by kernel_rfl))
  f320 := Tryz.func182.trans (congrArg some (by kernel_rfl))
  f337 := Tryz.func186.trans (congrArg some (by kernel_rfl))
  f338 := Tryz.func187.trans (congrArg some (by kernel_rfl))
  t0 := Tryz.underlying0
  a0 := Tryz.isAgg0
  z0 := Tryz.sizeOf0
  v0 := Tryz.zeroValue0
  t2 := Tryz.underlying2
  a2 := Tryz.isAgg2
  z2 := Tryz.sizeOf2
  v2 := Tryz.zeroValue2
  t3 := Tryz.underlying3
  a3 := Tryz.isAgg3
  z3 := Tryz.sizeOf3
  v3 := Tryz.zeroValue3
  t4 := Tryz.underlying4
  a4 := Tryz.isAgg4
  z4 := Tryz.sizeOf4
  v4 := Tryz.zeroValue4
  t5 := Tryz.underlying5
  a5 := Tryz.isAgg5
  z5 := Tryz.sizeOf5
  v5 := Tryz.zeroValue5
  t9 := Tryz.underlying9
  a9 := Tryz.isAgg9
  z9 := Tryz.sizeOf9
  v9 := Tryz.zeroValue9
  t20 := Tryz.underlying20
  a20 := Tryz.isAgg20
  z20 := Tryz.sizeOf20
  v20 := Tryz.zeroValue20
  t37 := Tryz.underlying60
  a37 := Tryz.isAgg60
  z37 := Tryz.sizeOf60
  v37 := Tryz.zeroValue60
  t46 := Tryz.underlying137
  a46 := Tryz.isAgg137
  z46 := Tryz.sizeOf137
  v46 := Tryz.zeroValue137
  t51 := Tryz.underlying159
  a51 := Tryz.isAgg159
  z51 := Tryz.sizeOf159
  v51 := Tryz.zeroValue159
  t53 := Tryz.underlying162
  a53 := Tryz.isAgg162
  z53 := Tryz.sizeOf162
  v53 := Tryz.zeroValue162
  t171 := Tryz.underlying168
  a171 := Tryz.isAgg168
  z171 := Tryz.sizeOf168
  v171 := Tryz.zeroValue168
  t173 := Tryz.underlying171
  a173 := Tryz.isAgg171
  z173 := Tryz.sizeOf171
  v173 := Tryz.zeroValue171
  t212 := Tryz.underlying182
  a212 := Tryz.isAgg182
  z212 := Tryz.sizeOf182
  v212 := Tryz.zeroValue182
  t213 := Tryz.underlying183
  a213 := Tryz.isAgg183
  z213 := Tryz.sizeOf183
  t232 := Tryz.underlying191
  a232 := Tryz.isAgg191
  z232 := Tryz.sizeOf191
  v232 := Tryz.zeroValue191
  t233 := Tryz.underlying192
  a233 := Tryz.isAgg192
  z233 := Tryz.sizeOf192
  v233 := Tryz.zeroValue192
  g17 := by kernel_rfl
  g18 := by kernel_rfl
  g19 := by kernel_rfl
  i0 := by kernel_rfl
  i2 := by kernel_rfl
  i3 := by kernel_rfl
  i4 := by kernel_rfl
  i5 := by kernel_rfl
  i9 := by kernel_rfl
  i20 := by kernel_rfl
  i37 := by kernel_rfl
  i46 := by kernel_rfl
  i51 := by kernel_rfl
  i53 := by kernel_rfl
  i171 := by kernel_rfl
  i173 := by kernel_rfl
  i212 := by kernel_rfl
  i232 := by kernel_rfl
  i233 := by kernel_rfl
  m17 := by kernel_rfl
  m18 := by kernel_rfl
  m19 := by kernel_rfl }
open Go.RowKit Go.Sort Go.Lib in
theorem Tryz.strconv_Itoa (n : Int) (h0 : -9223372036854775808 ≤ n) (h1 : n ≤ 9223372036854775807) (w : World) (htab : Lib.TabIs Tryz.prog w "internal/strconv.uint64pow10" .u64 Lib.pow10Tab) :
    Calls Tryz.prog 93 #[.int .i64 n] w fun e w' => e = .returned (.string ⟨(Lib.itoa n).toArray⟩) ∧ ∃ k os, w' = grow (w.drewN k) os := Any.strconv_Itoa Tryz.laysM171 n h0 h1 w htab
def Tryz.laysC172_ren : Go.Shelf.Ren := ⟨fun | 172 => 92 | 244 => 118 | 245 => 119 | 247 => 144 | 279 => 145 | 280 => 146 | 281 => 147 | 282 => 148 | 287 => 165 | 316 => 166 | 171 => 93 | 205 => 167 | 321 => 176 | 322 => 177 | 243 => 120 | 246 => 149 | 283 => 168 | 284 => 169 | 285 => 170 | 286 => 171 | 129 => 179 | 317 => 178 | 318 => 180 | 319 => 181 | 320 => 182 | 337 => 186 | 338 => 187 | n => n, fun | 9 => 9 | 3 => 3 | 75 => 98 | 76 => 99 | 4 => 4 | 5 => 5 | 167 => 138 | 37 => 60 | 0 => 0 | 85 => 139 | 2 => 2 | 168 => 141 | 53 => 162 | 175 => 163 | 46 => 137 | 210 => 166 | 127 => 177 | 145 => 180 | 143 => 178 | 21 => 21 | 171 => 168 | 173 => 171 | 212 => 182 | 51 => 159 | 20 => 20 | 213 => 183 | 232 => 191 | 233 => 192 | 80 => 193 | n => n, fun | 15 => 1 | 16 => 2 | 17 => 3 | 18 => 6 | 19 => 7 | n => n⟩
theorem Tryz.laysC172 : Go.Proofs.LaysC.n172 Tryz.prog Tryz.laysC172_ren := {
  mixed := by kernel_rfl
  f129 := Tryz.func179.trans (congrArg some (by kernel_rfl))
  f171 := Tryz.func93.trans (congrArg some (by kernel_rfl))
  f172 := Tryz.func92.trans (congrArg some (by kernel_rfl))
  f205 := Tryz.func167.trans (congrArg some (by kernel_rfl))
  f243 := Tryz.func120.trans (congrArg some (by kernel_rfl))
  f244 := Tryz.func118.trans (congrArg some (by kernel_rfl))
  f245 := Tryz.func119.trans (congrArg some (by kernel_rfl))
  f246 := Tryz.func149.trans (congrArg some (by kernel_rfl))
  f247 := Tryz.func144.trans (congrArg some (by kernel_rfl))
  f279 := Tryz.func145.trans (congrArg some (by kernel_rfl))
  f280 := Tryz.func146.trans (congrArg some (by kernel_rfl))
  f281 := Tryz.func147.trans (congrArg some (by kernel_rfl))
  f282 := Tryz.func148.trans (congrArg some (by kernel_rfl))
  f283 := Tryz.func168.trans (congrArg some (by kernel_rfl))
  f284 := Tryz.func169.trans (congrArg some (by kernel_rfl))
  f285 := Tryz.func170.trans (congrArg some (by kernel_rfl))
  f286 := Tryz.func171.trans (congrArg some (by kernel_rfl))
  f287 := Tryz.func165.trans (congrArg some (by kernel_rfl))
  f316 := Tryz.func166.trans (congrArg some (by kernel_rfl))
  f317 := Tryz.func178.trans (congrArg some (by kernel_rfl))
  f318 := Tryz.func180.trans (congrArg some (by kernel_rfl))
  f319 := Tryz.func181.trans (congrArg some (by kernel_rfl))
  f320 := Tryz.func182.trans (congrArg some (by kernel_rfl))
  f321 := Tryz.func176.trans (congrArg some (by kernel_rfl))
  f322 := Tryz.func177.trans (congrArg some (by kernel_rfl))
  f337 := Tryz.func186.trans (congrArg some (by kernel_rfl))
  f338 := Tryz.func187.trans (congrArg some (by kernel_rfl))
  t0 := Tryz.underlying0
  a0 := Tryz.isAgg0
  z0 := Tryz.sizeOf0
  v0 := Tryz.zeroValue0
  t2 := Tryz.underlying2
  a2 := Tryz.isAgg2
  z2 := Tryz.sizeOf2
  v2 := Tryz.zeroValue2
  t3 := Tryz.underlying3
  a3 := Tryz.isAgg3
  z3 := Tryz.sizeOf3
  v3 := Tryz.zeroValue3
  t4 := Tryz.underlying4
  a4 := Tryz.isAgg4
  z4 := Tryz.sizeOf4
  v4 := Tryz.zeroValue4
  t5 := Tryz.underlying5
  a5 := Tryz.isAgg5
  z5 := Tryz.sizeOf5
  v5 := Tryz.zeroValue5
  t9 := Tryz.underlying9
  a9 := Tryz.isAgg9
  z9 := Tryz.sizeOf9
  v9 := Tryz.zeroValue9
  t20 := Tryz.underlying20
  a20 := Tryz.isAgg20
  z20 := Tryz.sizeOf20
  v20 := Tryz.zeroValue20
  t21 := Tryz.underlying21
  a21 := Tryz.isAgg21
  z21 := Tryz.sizeOf21
  v21 := Tryz.zeroValue21
  t37 := Tryz.underlying60
  a37 := Tryz.isAgg60
  z37 := Tryz.sizeOf60
  v37 := Tryz.zeroValue60
  t46 := Tryz.underlying137
  a46 := Tryz.isAgg137
  z46 := Tryz.sizeOf137
  v46 := Tryz.zeroValue137
  t51 := Tryz.underlying159
  a51 := Tryz.isAgg159
  z51 := Tryz.sizeOf159
  v51 := Tryz.zeroValue159
  t53 := Tryz.underlying162
  a53 := Tryz.isAgg162
  z53 := Tryz.sizeOf162
  v53 := Tryz.zeroValue162
  t75 := Tryz.underlying98
  a75 := Tryz.isAgg98
  z75 := Tryz.sizeOf98
  v75 := Tryz.zeroValue98
  t76 := Tryz.underlying99
  a76 := Tryz.isAgg99
  z76 := Tryz.sizeOf99
  v76 := Tryz.zeroValue99
  t85 := Tryz.underlying139
  a85 := Tryz.isAgg139
  z85 := Tryz.sizeOf139
  v85 := Tryz.zeroValue139
  t127 := Tryz.underlying177
  a127 := Tryz.isAgg177
  z127 := Tryz.sizeOf177
  v127 := Tryz.zeroValue177
  t143 := Tryz.underlying178
  a143 := Tryz.isAgg178
  z143 := Tryz.sizeOf178
  v143 := Tryz.zeroValue178
  t145 := Tryz.underlying180
  a145 := Tryz.isAgg180
  z145 := Tryz.sizeOf180
  v145 := Tryz.zeroValue180
  t167 := Tryz.underlying138
  a167 := Tryz.isAgg138
  z167 := Tryz.sizeOf138
  v167 := Tryz.zeroValue138
  t168 := Tryz.underlying141
  a168 := Tryz.isAgg141
  z168 := Tryz.sizeOf141
  v168 := Tryz.zeroValue141
  t171 := Tryz.underlying168
  a171 := Tryz.isAgg168
  z171 := Tryz.sizeOf168
  v171 := Tryz.zeroValue168
  t173 := Tryz.underlying171
  a173 := Tryz.isAgg171
  z173 := Tryz.sizeOf171
  v173 := Tryz.zeroValue171
  t175 := Tryz.underlying163
  a175 := Tryz.isAgg163
  z175 := Tryz.sizeOf163
  v175 := Tryz.zeroValue163
  t210 := Tryz.underlying166
  a210 := Tryz.isAgg166
  z210 := Tryz.sizeOf166
  v210 := Tryz.zeroValue166
  t212 := Tryz.underlying182
  a212 := Tryz.isAgg182
  z212 := Tryz.sizeOf182
  v212 := Tryz.zeroValue182
  t213 := Tryz.underlying183
  a213 := Tryz.isAgg183
  z213 := Tryz.sizeOf183
  t232 := Tryz.underlying191
  a232 := Tryz.isAgg191
  z232 := Tryz.sizeOf191
  v232 := Tryz.zeroValue191
  t233 := Tryz.underlying192
  a233 := Tryz.isAgg192
  z233 := Tryz.sizeOf192
  v233 := Tryz.zeroValue192
  g15 := by kernel_rfl
  g16 := by kernel_rfl
  g17 := by kernel_rfl
  g18 := by kernel_rfl
  g19 := by kernel_rfl
  t80 := Tryz.underlying193
  a80 := Tryz.isAgg193
  z80 := Tryz.sizeOf193
  v80 := Tryz.zeroValue193
  i0 := by kernel_rfl
  i2 := by kernel_rfl
  i3 := by kernel_rfl
  i4 := by kernel_rfl
  i5 := by kernel_rfl
  i9 := by kernel_rfl
  i20 := by kernel_rfl
  i21 := by kernel_rfl
  i37 := by kernel_rfl
  i46 := by kernel_rfl
  i51 := by kernel_rfl
  i53 := by kernel_rfl
  i75 := by kernel_rfl
  i76 := by kernel_rfl
  i80 := by kernel_rfl
  i85 := by kernel_rfl
  i127 := by kernel_rfl
  i143 := by kernel_rfl
  i145 := by kernel_rfl
  i167 := by kernel_rfl
  i168 := by kernel_rfl
  i171 := by kernel_rfl
  i173 := by kernel_rfl
  i175 := by kernel_rfl
  i210 := by kernel_rfl
  i212 := by kernel_rfl
  i232 := by kernel_rfl
  i233 := by kernel_rfl
  m15 := by kernel_rfl
  m16 := by kernel_rfl
  m17 := by kernel_rfl
  m18 := by kernel_rfl
  m19 := by kernel_rfl
  c0 := by kernel_rfl
  c2 := by kernel_rfl
  c3 := by kernel_rfl
  c4 := by kernel_rfl
  c5 := by kernel_rfl
  c9 := by kernel_rfl
  c20 := by kernel_rfl
  c21 := by kernel_rfl
  c37 := by kernel_rfl
  c46 := by kernel_rfl
  c51 := by kernel_rfl
  c53 := by kernel_rfl
  c75 := by kernel_rfl
  c76 := by kernel_rfl
  c80 := by kernel_rfl
  c85 := by kernel_rfl
  c127 := by kernel_rfl
  c143 := by kernel_rfl
  c145 := by kernel_rfl
  c167 := by kernel_rfl
  c168 := by kernel_rfl
  c171 := by kernel_rfl
  c173 := by kernel_rfl
  c175 := by kernel_rfl
  c210 := by kernel_rfl
  c212 := by kernel_rfl
  c213 := by kernel_rfl
  c232 := by kernel_rfl
  c233 := by kernel_rfl }
open Go.RowKit in
theorem Tryz.strconv_Atoi_ok (s : ByteArray) (hmax : s.size ≤ 9223372036854775806) (v : Int) (h : Lib.atoiAll s.data.toList = .ok v) (w : World) :
    Calls Tryz.prog 92 #[.string s] w fun e w' => e = .returned (.tuple #[.int .i64 v, .nilIface]) ∧ (w' = w ∨ ∃ t, w' = Lib.bytesWorld w 5 t) := Any.strconv_Atoi_ok Tryz.laysC172 s hmax v h w
open Go.RowKit in
theorem Tryz.strconv_Atoi_syntax (s : ByteArray) (hlim : s.size ≤ 281474976710656) (h : (∀ v, Lib.atoiAll s.data.toList ≠ .ok v) ∧ Lib.atoiAll s.data.toList ≠ .range) (ev : Value) (w : World) (hv : w.cell? ⟨1, 0, none⟩ = some ev) (hev : ev = .nilIface ∨ ∃ te pe, ev = .iface te pe) :
    Calls Tryz.prog 92 #[.string s] w fun e w' => ∃ N, e = .returned (.tuple #[.int .i64 (0), .iface 141 (.pointer (some ⟨N, 0, none⟩))]) ∧ w.heap.size ≤ N ∧ w'.heap[N]? = some (.cells #[.string ⟨#[65, 116, 111, 105]⟩, .string s, ev] 166 (0, 0)) ∧ Below w.heap.size w w' := Any.strconv_Atoi_syntax Tryz.laysC172 s hlim (by rcases he : Lib.atoiAll s.data.toList with v | _ | _ <;> first | rfl | exact absurd he (h.1 v) | exact absurd he h.2) ev w hv hev
open Go.RowKit in
theorem Tryz.strconv_Atoi_range (s : ByteArray) (hlim : s.size ≤ 281474976710656) (h : Lib.atoiAll s.data.toList = .range) (ev : Value) (w : World) (hv : w.cell? ⟨2, 0, none⟩ = some ev) (hev : ev = .nilIface ∨ ∃ te pe, ev = .iface te pe) :
    Calls Tryz.prog 92 #[.string s] w fun e w' => ∃ N, e = .returned (.tuple #[.int .i64 (Lib.atoiSat s.data.toList), .iface 141 (.pointer (some ⟨N, 0, none⟩))]) ∧ w.heap.size ≤ N ∧ w'.heap[N]? = some (.cells #[.string ⟨#[65, 116, 111, 105]⟩, .string s, ev] 166 (0, 0)) ∧ Below w.heap.size w w' := Any.strconv_Atoi_range Tryz.laysC172 s hlim h ev w hv hev
def Tryz.lays143_ren : Go.Shelf.Ren := ⟨fun | 143 => 85 | 219 => 116 | 217 => 139 | 225 => 140 | 224 => 141 | 267 => 142 | 266 => 163 | 314 => 164 | n => n, fun | 9 => 9 | 3 => 3 | 4 => 4 | 5 => 5 | 46 => 137 | 146 => 160 | 51 => 159 | n => n, fun | 1 => 0 | n => n⟩
theorem Tryz.lays143 : Go.Proofs.Lays.n143 Tryz.prog Tryz.lays143_ren := {
  mixed := by kernel_rfl
  f143 := Tryz.func85.trans (congrArg some (by kernel_rfl))
  f217 := Tryz.func139.trans (congrArg some (by kernel_rfl))
  f219 := Tryz.func116.trans (congrArg some (by kernel_rfl))
  f224 := Tryz.func141.trans (congrArg some (by kernel_rfl))
  f225 := Tryz.func140.trans (congrArg some (by kernel_rfl))
  f266 := Tryz.func163.trans (congrArg some (by kernel_rfl))
  f267 := Tryz.func142.trans (congrArg some (by kernel_rfl))
  f314 := Tryz.func164.trans (congrArg some (by kernel_rfl))
  t3 := Tryz.underlying3
  a3 := Tryz.isAgg3
  z3 := Tryz.sizeOf3
  v3 := Tryz.zeroValue3
  t4 := Tryz.underlying4
  a4 := Tryz.isAgg4
  z4 := Tryz.sizeOf4
  v4 := Tryz.zeroValue4
  t5 := Tryz.underlying5
  a5 := Tryz.isAgg5
  z5 := Tryz.sizeOf5
  v5 := Tryz.zeroValue5
  t9 := Tryz.underlying9
  a9 := Tryz.isAgg9
  z9 := Tryz.sizeOf9
  v9 := Tryz.zeroValue9
  t46 := Tryz.underlying137
  a46 := Tryz.isAgg137
  z46 := Tryz.sizeOf137
  v46 := Tryz.zeroValue137
  t51 := Tryz.underlying159
  a51 := Tryz.isAgg159
  z51 := Tryz.sizeOf159
  v51 := Tryz.zeroValue159
  t146 := Tryz.underlying160
  a146 := Tryz.isAgg160
  z146 := Tryz.sizeOf160
  v146 := Tryz.zeroValue160
  g1 := by kernel_rfl }
open Go.RowKit Go.Lib in
theorem Tryz.strings_Index (s sub : ByteArray) (m : Int) (w : World) (hs : s.size < 4294967281) (hm : w.cell? ⟨0, 0, none⟩ = some (.int .i64 m)) :
    Calls Tryz.prog 85 #[.string s, .string sub] w fun e w' => e = .returned (.int .i64 (Lib.index s.data.toList sub.data.toList)) ∧ w' = w := Any.strings_Index Tryz.lays143 s sub m w hs hm
def Tryz.lays144_ren : Go.Shelf.Ren := ⟨fun | 144 => 48 | 143 => 85 | 219 => 116 | 217 => 139 | 225 => 140 | 224 => 141 | 267 => 142 | 266 => 163 | 314 => 164 | n => n, fun | 9 => 9 | 4 => 4 | 3 => 3 | 5 => 5 | 46 => 137 | 146 => 160 | 51 => 159 | n => n, fun | 1 => 0 | n => n⟩
theorem Tryz.lays144 : Go.Proofs.Lays.n144 Tryz.prog Tryz.lays144_ren := {
  mixed := by kernel_rfl
  f143 := Tryz.func85.trans (congrArg some (by kernel_rfl))
  f144 := Tryz.func48.trans (congrArg some (by kernel_rfl))
  f217 := Tryz.func139.trans (congrArg some (by kernel_rfl))
  f219 := Tryz.func116.trans (congrArg some (by kernel_rfl))
  f224 := Tryz.func141.trans (congrArg some (by kernel_rfl))
  f225 := Tryz.func140.trans (congrArg some (by kernel_rfl))
  f266 := Tryz.func163.trans (congrArg some (by kernel_rfl))
  f267 := Tryz.func142.trans (congrArg some (by kernel_rfl))
  f314 := Tryz.func164.trans (congrArg some (by kernel_rfl))
  t3 := Tryz.underlying3
  a3 := Tryz.isAgg3
  z3 := Tryz.sizeOf3
  v3 := Tryz.zeroValue3
  t4 := Tryz.underlying4
  a4 := Tryz.isAgg4
  z4 := Tryz.sizeOf4
  v4 := Tryz.zeroValue4
  t5 := Tryz.underlying5
  a5 := Tryz.isAgg5
  z5 := Tryz.sizeOf5
  v5 := Tryz.zeroValue5
  t9 := Tryz.underlying9
  a9 := Tryz.isAgg9
  z9 := Tryz.sizeOf9
  v9 := Tryz.zeroValue9
  t46 := Tryz.underlying137
  a46 := Tryz.isAgg137
  z46 := Tryz.sizeOf137
  v46 := Tryz.zeroValue137
  t51 := Tryz.underlying159
  a51 := Tryz.isAgg159
  z51 := Tryz.sizeOf159
  v51 := Tryz.zeroValue159
  t146 := Tryz.underlying160
  a146 := Tryz.isAgg160
  z146 := Tryz.sizeOf160
  v146 := Tryz.zeroValue160
  g1 := by kernel_rfl }
open Go.RowKit Go.Lib in
theorem Tryz.strings_Contains_one (s : ByteArray) (c : UInt8) (w : World) :
    Calls Tryz.prog 48 #[.string s, .string ⟨#[c]⟩] w fun e w' => e = .returned (.bool (decide (0 ≤ Lib.indexByte s.data.toList c))) ∧ w' = w := Any.strings_Contains_one Tryz.lays144 s c w
def Tryz.laysM219_ren : Go.Shelf.Ren := ⟨fun | 219 => 116 | 217 => 139 | 225 => 140 | 224 => 141 | 267 => 142 | 266 => 163 | 314 => 164 | n => n, fun | 9 => 9 | 3 => 3 | 4 => 4 | 5 => 5 | 46 => 137 | 146 => 160 | 51 => 159 | n => n, fun | 1 => 0 | n => n⟩
theorem Tryz.laysM219 : Go.Proofs.LaysM.n219 Tryz.prog Tryz.laysM219_ren := {
  mixed := by kernel_rfl
  f217 := Tryz.func139.trans (congrArg some (by kernel_rfl))
  f219 := Tryz.func116.trans (congrArg some (by kernel_rfl))
  f224 := Tryz.func141.trans (congrArg some (by kernel_rfl))
  f225 := Tryz.func140.trans (congrArg some (by kernel_rfl))
  f266 := Tryz.func163.trans (congrArg some (by kernel_rfl))
  f267 := Tryz.func142.trans (congrArg some (by kernel_rfl))
  f314 := Tryz.func164.trans (congrArg some (by kernel_rfl))
  t3 := Tryz.underlying3
  a3 := Tryz.isAgg3
  z3 := Tryz.sizeOf3
  v3 := Tryz.zeroValue3
  t4 := Tryz.underlying4
  a4 := Tryz.isAgg4
  z4 := Tryz.sizeOf4
  v4 := Tryz.zeroValue4
  t5 := Tryz.underlying5
  a5 := Tryz.isAgg5
  z5 := Tryz.sizeOf5
  v5 := Tryz.zeroValue5
  t9 := Tryz.underlying9
  a9 := Tryz.isAgg9
  z9 := Tryz.sizeOf9
  v9 := Tryz.zeroValue9
  t46 := Tryz.underlying137
  a46 := Tryz.isAgg137
  z46 := Tryz.sizeOf137
  v46 := Tryz.zeroValue137
  t51 := Tryz.underlying159
  a51 := Tryz.isAgg159
  z51 := Tryz.sizeOf159
  v51 := Tryz.zeroValue159
  t146 := Tryz.underlying160
  a146 := Tryz.isAgg160
  z146 := Tryz.sizeOf160
  v146 := Tryz.zeroValue160
  g1 := by kernel_rfl
  i3 := by kernel_rfl
  i4 := by kernel_rfl
  i5 := by kernel_rfl
  i9 := by kernel_rfl
  i46 := by kernel_rfl
  i51 := by kernel_rfl
  i146 := by kernel_rfl
  m1 := by kernel_rfl
  s1_3 := fun w h => Go.Proofs.cell_of_shapedOpen_int (zero := #[.int .i64 0]) (t := 3) h (of_decide_eq_true (by kernel_rfl)) (by kernel_rfl) rfl (by kernel_rfl) (by kernel_rfl) Tryz.underlying3 }
def Tryz.lays100_ren : Go.Shelf.Ren := ⟨fun | 100 => 107 | 207 => 131 | n => n, fun | 9 => 9 | 4 => 4 | 3 => 3 | n => n, fun | n => n⟩
theorem Tryz.lays100 : Go.Proofs.Lays.n100 Tryz.prog Tryz.lays100_ren := {
  mixed := by kernel_rfl
  f100 := Tryz.func107.trans (congrArg some (by kernel_rfl))
  f207 := Tryz.func131.trans (congrArg some (by kernel_rfl))
  t3 := Tryz.underlying3
  a3 := Tryz.isAgg3
  z3 := Tryz.sizeOf3
  v3 := Tryz.zeroValue3
  t4 := Tryz.underlying4
  a4 := Tryz.isAgg4
  z4 := Tryz.sizeOf4
  v4 := Tryz.zeroValue4
  t9 := Tryz.underlying9
  a9 := Tryz.isAgg9
  z9 := Tryz.sizeOf9
  v9 := Tryz.zeroValue9 }
open Go.RowKit Go.Lib in
theorem Tryz.strings_HasSuffix (s p : ByteArray) (w : World) (hs : s.size ≤ 9223372036854775807) :
    Calls Tryz.prog 107 #[.string s, .string p] w fun e w' => e = .returned (.bool (Lib.hasSuffix s.data.toList p.data.toList)) ∧ w' = w := Any.strings_HasSuffix Tryz.lays100 s p w hs
def Tryz.laysPa45_ren : Go.Shelf.Ren := ⟨fun | 45 => 98 | n => n, fun | 9 => 9 | 5 => 5 | 3 => 3 | 4 => 4 | n => n, fun | n => n⟩
theorem Tryz.laysPa45 : Go.Proofs.Lays.p45 Tryz.prog Tryz.laysPa45_ren := {
  mixed := by kernel_rfl
  f45 := Tryz.func98.trans (congrArg some (by kernel_rfl))
  t3 := Tryz.underlying3
  a3 := Tryz.isAgg3
  z3 := Tryz.sizeOf3
  v3 := Tryz.zeroValue3
  t4 := Tryz.underlying4
  a4 := Tryz.isAgg4
  z4 := Tryz.sizeOf4
  v4 := Tryz.zeroValue4
  t5 := Tryz.underlying5
  a5 := Tryz.isAgg5
  z5 := Tryz.sizeOf5
  v5 := Tryz.zeroValue5
  t9 := Tryz.underlying9
  a9 := Tryz.isAgg9
  z9 := Tryz.sizeOf9
  v9 := Tryz.zeroValue9 }
open Go.RowKit Go.Lib in
theorem Tryz.bytealg_LastIndexByteString (s : ByteArray) (c : UInt8) (w : World) (hs : s.size ≤ 9223372036854775807) :
    Calls Tryz.prog 98 #[.string s, .int .u8 c.toNat] w fun e w' => e = .returned (.int .i64 (Pa.lastIndexByte s.data.toList c)) ∧ w' = w := Any.bytealg_LastIndexByteString Tryz.laysPa45 s c w hs
end Go.Proofs
end

section
namespace Go.Proofs.YtkgdkpiacencjaaGreatDoor.WordC
open Go.RowKit Mem WordP OneB WordW WordS

theorem len0 (t : ByteArray) (h : t.size = 0) : t.data.toList = [] := List.eq_nil_of_length_eq_zero (by simpa using h)
theorem strTrim_any (s : ByteArray) (w : World) (hs : s.size ≤ 4611686018427387904) :
    Calls Tryz.prog 122 #[.string s, .string ⟨#[32, 9]⟩] w (Gives (.string (str (trim s.data.toList))) w) := by
  have h := Any.strings_Trim_laid Tryz.lays160 (by kernel_rfl) s ⟨#[32, 9]⟩ w (by omega) (by decide) (ascii_of_all (by decide))
  rw [trimS_eq] at h
  exact h
theorem trim_any (s : ByteArray) (w : World) (hs : s.size ≤ 4611686018427387904) :
    Calls Tryz.prog 96 #[.string s] w (Gives (.string (str (trim s.data.toList))) w) := by
  have CT := Lib.hid (fun w' => strTrim_any s w' hs)
  go_enter Tryz.func96, Tryz.ntmps96
  go_wp2_with fail
  with_reducible refine (CT.out _).mono ?_
  rintro e w1 ⟨rfl, hb1⟩
  go_wp2_with fail
  go_ret
  exact ⟨rfl, hb1⟩
theorem index_any (s : ByteArray) (c : UInt8) (w : World) :
    Calls Tryz.prog 121 #[.string s, .int .u8 c.toNat] w (fun e w' => e = .returned (.int .i64 (Lib.indexByte s.data.toList c)) ∧ w = w') := by
  have h := Tryz.strings_IndexByte s c.toNat w
  have e : ((c.toNat : Int)).toNat.toUInt8 = c := by simp
  rw [e] at h
  exact h.mono fun _ _ h => ⟨h.1, h.2.symm⟩
/-- What Cut says. -/
def cut (c : UInt8) (l : List UInt8) : List UInt8 × List UInt8 × Bool :=
  if l.contains c then (l.take (Lib.indexByte l c).toNat, l.drop ((Lib.indexByte l c).toNat + 1), true) else (l, [], false)
theorem cut_none {c : UInt8} {l : List UInt8} (h : l.contains c = false) : cut c l = (l, [], false) := by unfold cut; rw [h]; rfl
theorem cut_at {c : UInt8} {a r : List UInt8} (h : a.contains c = false) : cut c (a ++ c :: r) = (a, r, true) := by
  unfold cut
  rw [index_at a r c h, if_pos (by simp)]
  simp
theorem ext_drop (s : ByteArray) (k : Nat) : s.extract k s.size = str (s.data.toList.drop k) := by
  apply ByteArray.ext; apply Array.ext'
  simp [str, ByteArray.data_extract]
  exact List.take_of_length_le (by simp)
theorem ext_take (s : ByteArray) (k : Nat) : s.extract 0 k = str (s.data.toList.take k) := by
  apply ByteArray.ext; apply Array.ext'
  simp [str, ByteArray.data_extract]
def Cuts (p : List UInt8 × List UInt8 × Bool) (w : World) (e : Ending) (w' : World) : Prop := e = .returned (.tuple #[.string (str p.1), .string (str p.2.1), .bool p.2.2]) ∧ Below w.heap.size w w'
theorem cut_any (s : ByteArray) (c : UInt8) (w : World) (hs : s.size ≤ 4611686018427387904) :
    Calls Tryz.prog 94 #[.string s, .int .u8 c.toNat] w (Cuts (cut c s.data.toList) w) := by
  have CI := Lib.hid (fun w' => index_any s c w')
  rcases first_at c s.data.toList with h | ⟨a, r, hl, h⟩
  · rw [index_none _ _ h] at CI
    rw [cut_none h]
    have hst : str s.data.toList = s := mkB s
    have HS := Lib.hid hst
    clear h hst
    go_enter Tryz.func94, Tryz.ntmps94
    go_wp2_with fail
    with_reducible refine (CI.out _).mono ?_
    rintro e w1 ⟨rfl, rfl⟩
    go_wp2_with fail
    go_ret3
    refine ⟨?_, Below.refl _ _⟩
    show _ = Ending.returned (.tuple #[.string (str s.data.toList), .string (str []), .bool false])
    rw [HS.out]
    rfl
  · have hz : a.length + 1 + r.length = s.size := by
      have : s.data.toList.length = s.size := by simp
      rw [hl] at this; simp at this; omega
    have hix : Lib.indexByte s.data.toList c = (a.length : Int) := by rw [hl]; exact index_at a r c h
    have he1 : s.extract 0 a.length = str a := by rw [ext_take, hl]; simp
    have he2 : s.extract (a.length + 1) s.size = str r := by rw [ext_drop, hl]; simp
    have hcut : cut c s.data.toList = (a, r, true) := by rw [hl]; exact cut_at h
    rw [hix] at CI
    rw [hcut]
    have H1 := Lib.hid he1; have H2 := Lib.hid he2
    clear he1 he2 hcut hix hl h
    generalize a.length = n at hz H1 H2 CI
    have hw1 : (0 : Int) ≤ (n : Int) := by omega
    have hw2 : (n : Int) ≤ (s.size : Int) := by omega
    have hw3 : (n : Int) + 1 ≤ (s.size : Int) := by omega
    go_enter Tryz.func94, Tryz.ntmps94
    go_wp2_with fail
    with_reducible refine (CI.out _).mono ?_
    rintro e w1 ⟨rfl, rfl⟩
    go_wp2_with fail
    go_quiet (fail)
    go_wp2_with fail
    go_ret3
    refine ⟨?_, ⟨rfl, rfl, rfl, Nat.le_refl _, fun _ _ => rfl⟩⟩
    show _ = Ending.returned (.tuple #[.string (str a), .string (str r), .bool true])
    rw [← H1.out, ← H2.out]
    rfl
end Go.Proofs.YtkgdkpiacencjaaGreatDoor.WordC
end

section
namespace Go.Proofs.YtkgdkpiacencjaaGreatDoor.Range
open Go.RowKit
section
variable {α : Type} {F : Fence} {n : Nat} {P : Program}

/-- It stands while blocks are made and block b turns. -/
def Lets (b : Nat) (J : List α → World → Prop) : Prop := ∀ xs W W' row, J xs W → W.grownBy W' row → (row = none ∨ row = some b) → J xs W'
/-- The iterator's word: it hands out what S says, one by one; between the rounds it turns block b alone; it reads blocks of K. -/
def Hands (F : Fence) (n : Nat) (P : Program) (g : Nat) (lb : Array Value) (encs : α → Array Value) (b : Nat) (K : Nat → Prop) (S : List α → Prop) (N : Nat) (w : World) : Prop :=
  ∀ (l : Nat) (J : List α → World → Prop) (W : World), (∀ k, K k → W.heap[k]? = w.heap[k]?) → w.heap.size ≤ W.heap.size → Lets b J →
    (∀ pre x V, J pre V → pre.length < N → YieldAt F (n - 1) P l (encs x) V fun e V' => e = .returned (.bool true) ∧ J (pre ++ [x]) V' ∧ (∀ k, K k → V'.heap[k]? = V.heap[k]?) ∧ V.heap.size ≤ V'.heap.size) →
    J [] W → CallsIn F n P g (#[.func (.yield l) #[] #[]] ++ lb) W fun e W' => (∃ v, e = .returned v) ∧ ∃ xs, S xs ∧ J xs W'
/-- What the caller says of its own: it stands while block b turns, and what is no cells from block B on. -/
def Mine (b B : Nat) (I : List α → World → Prop) : Prop := ∀ xs W W' row, I xs W → W.grownBy W' row → (∀ r, row = some r → r = b ∨ (B ≤ r ∧ ∃ o : Obj, W.heap[r]? = some o ∧ o.isCells = false)) → I xs W'
/-- The body's end. -/
def Round (K : Nat → Prop) (I : List α → World → Prop) (xs : List α) (W : World) : Exit → Act → World → Prop
  | .normal, _, W' => KeepsOthers W W' ∧ (∀ k, K k → W'.heap[k]? = W.heap[k]?) ∧ I xs W'
  | _, _, _ => False
theorem Mine.put {b B l : Nat} {I : List α → World → Prop} (h : Mine b B I) {xs : List α} {W : World} {o : Obj} (o' : Obj) (hi : I xs W) (hB : B ≤ l) (hl : W.heap[l]? = some o) (ho : o.isCells = false) : I xs (W.putObj l o') :=
  h xs W _ (some l) hi (grownBy_putObj' W l o') (fun r e => by cases e; exact .inr ⟨hB, o, hl, ho⟩)
theorem Mine.new {b B : Nat} {I : List α → World → Prop} (h : Mine b B I) {xs : List α} {W : World} (o : Obj) (hi : I xs W) : I xs (W.alloc o) :=
  h xs W _ none hi (World.grownBy_alloc W o none) (fun r e => by cases e)
theorem kept_of {W W' : World} {row : Option Nat} {b k : Nat} (g : W.grownBy W' row) (hr : row = none ∨ row = some b) (hk : k < W.heap.size) (hb : k ≠ b) : W'.heap[k]? = W.heap[k]? :=
  g.block k hk (fun e => by rcases hr with h | h <;> rw [h] at e <;> cases e; exact hb rfl)
theorem lt_of {W : World} {k : Nat} {o : Obj} (h : W.heap[k]? = some o) : k < W.heap.size := (Array.getElem?_eq_some_iff.1 h).1

theorem range_hands {g : Operand} {ps : Array Tmp} {assign body : Code} {Q : Exit → Act → World → Prop} {a : Act} {w : World}
    (hro : F.round = none) (h1 : 1 ≤ n) {gf : Nat} {lb : Array Value} (hg : a.eval g = .func (.func gf) #[] lb) (hFg : F.fn gf) (eg : ∀ args w, (callFunc gf args).run P w = .ok (.enter gf args) w)
    {encs : α → Array Value} {b : Nat} {K : Nat → Prop} {S : List α → Prop} {N : Nat} (hb : K b) (hK : ∀ k, K k → k < w.heap.size) (hseq : Hands F (n - 1) P gf lb encs b K S N w) (hps : ∀ x, (encs x).size = ps.size)
    (I : List α → World → Prop) (hI : Mine b w.heap.size I) (h0 : I [] w) (a₁ : α → Act)
    (hassign : ∀ (l : Nat) (x : α) (W : World) (K : Act → World → Prop), K (a₁ x) W →
      assign.wpIn (F.inRound l) (n - 1 - 1) P (Exit.then K (fun _ _ _ => False)) { tmps := (ps.zip (encs x)).foldl (fun t (p, v) => t.setIfInBounds p v) a.tmps, defers := [] } W)
    (hbody : ∀ (l : Nat) (pre : List α) (x : α) (W : World), I pre W → pre.length < N → w.heap.size ≤ W.heap.size → body.wpIn (F.inRound l) (n - 1 - 1) P (Round K I (pre ++ [x]) W) (a₁ x) W)
    (hdone : ∀ (D : Nat) (xs : List α) (W : World), w.heap.size ≤ D → S xs → I xs W → W.heap[D]? = some (.deferred (some [])) → Q .normal { a with defers := { target := .collected D, args := #[] } :: a.defers } W) :
    (Code.rangeFunc g ps assign body).wpIn F n P Q a w := by
  refine wpIn_rangeFunc fun fn hfn => ?_
  rw [hro]
  have hbz := hK b hb
  generalize hD : w.heap.size = D at hI hdone hbody
  have recE : ∃ rec : LoopState → Option Code → Loop, rec = fun st pe => { state := st, pending := pe, fn, tmps := a.tmps, params := ps, assign, body, defers := D } := ⟨_, rfl⟩
  obtain ⟨rec, hrec⟩ := recE
  obtain ⟨V, hV⟩ : ∃ V, V = (w.alloc (.deferred (some []))).alloc (.loop (rec .ready none)) := ⟨_, rfl⟩
  have vD : V.heap[D]? = some (.deferred (some [])) := by
    rw [hV, ← hD]; exact (Below.heap_alloc _ _ _ (by simp)).trans (World.alloc_heap_new w _)
  have vL : V.heap[D + 1]? = some (.loop (rec .ready none)) := by
    have h := World.alloc_heap_new (w.alloc (.deferred (some []))) (.loop (rec .ready none))
    rw [World.size_alloc, hD] at h
    rw [hV]; exact h
  have vI : I [] V := by rw [hV]; exact hI.new _ (hI.new _ h0)
  have vb : ∀ k, K k → V.heap[k]? = w.heap[k]? := fun k hk => by
    have hkz := hK k hk
    rw [hV]; exact (Below.heap_alloc _ _ _ (by simp; omega)).trans (Below.heap_alloc _ _ _ hkz)
  have vz : w.heap.size ≤ V.heap.size := by rw [hV]; simp; omega
  refine ⟨D + 1, [{ target := .collected D, args := #[] }], V, { target := .fn (.func gf) lb, args := #[.func (.yield (D + 1)) #[] #[]] }, V, gf, #[.func (.yield (D + 1)) #[] #[]] ++ lb, V, ?_, ?_, ?_, ?_, fun _ => h1, ?_⟩
  · rw [hV, hrec, ← hD]; exact run_enterLoop_outer _ _ _ _ _
  · simp only [resolve, hg]
    simp [go_sem]
  · intro f' hf'
    simp [Target.leads] at hf'
    subst hf'
    exact hFg
  · simp [invoke, go_sem, eg]
  have hbD : b < D := by omega
  refine (hseq (D + 1) (fun xs W => (I xs W ∧ w.heap.size ≤ W.heap.size) ∧ W.heap[D + 1]? = some (.loop (rec .ready none)) ∧ W.heap[D]? = some (.deferred (some []))) V vb vz ?_ ?_ ⟨⟨vI, vz⟩, vL, vD⟩).mono ?_
  · rintro xs A B row ⟨⟨hi, hz⟩, hl, hd⟩ gr hr
    refine ⟨⟨hI xs A B row hi gr (fun r e => ?_), Nat.le_trans hz gr.size⟩, ?_, ?_⟩
    · rcases hr with h | h <;> rw [h] at e <;> cases e
      exact .inl rfl
    · rw [kept_of gr hr (lt_of hl) (by omega)]; exact hl
    · rw [kept_of gr hr (lt_of hd) (by omega)]; exact hd
  · rintro pre x W ⟨⟨hi, hz⟩, hl, hd⟩ hlen
    have hlt := lt_of hl
    have hy := run_yield (P := P) (args := encs x) hl (by rw [hrec]; exact hps x)
    rw [hrec] at hy
    refine ⟨fn, _, assign, body, hy, roundIn_of_wpIn hfn (hassign _ x W _ ⟨_, run_beginRound hl (by rw [hrec]), ?_⟩)⟩
    have b1 : (W.putObj (D + 1) (.loop { rec .ready none with state := .busy })).heap[D + 1]? = some (.loop { rec .ready none with state := .busy }) := World.putObj_heap_same hlt
    have b2 : (W.putObj (D + 1) (.loop { rec .ready none with state := .busy })).heap[D]? = some (.deferred (some [])) := (World.putObj_heap_other (by omega)).trans hd
    have b3 : ∀ k, K k → (W.putObj (D + 1) (.loop { rec .ready none with state := .busy })).heap[k]? = W.heap[k]? := fun k hk => World.putObj_heap_other (by have := hK k hk; omega)
    have b4 : (W.putObj (D + 1) (.loop { rec .ready none with state := .busy })).heap.size = W.heap.size := by simp
    refine wpIn_mono (hbody _ pre x _ (hI.put _ hi (by omega) hl rfl) hlen (by rw [b4]; omega)) ?_
    rintro e a3 U hp
    cases e with
    | normal =>
      obtain ⟨hk, hub, hiu⟩ := hp
      have u1 := hk.same _ _ b1 rfl
      have u2 := hk.same _ _ b2 rfl
      have hend := run_endRound (P := P) none u1
      rw [hrec] at hend
      have hzU := hk.size
      rw [b4] at hzU
      refine ⟨_, _, hend, rfl, ⟨⟨hI.put _ hiu (by omega) u1 rfl, by simp; omega⟩, ?_, (World.putObj_heap_other (by omega)).trans u2⟩, fun k hk => (World.putObj_heap_other (by have := hK k hk; omega)).trans ((hub k hk).trans (b3 k hk)), by simp; omega⟩
      have := World.putObj_heap_same (o := .loop (rec .ready none)) (lt_of u1)
      rw [hrec] at this ⊢
      exact this
    | _ => exact hp.elim
  · rintro e U ⟨⟨v, rfl⟩, xs, hS, ⟨hi, hz⟩, hl, hd⟩
    have hend := run_endLoop (P := P) hl (by rw [hrec]; simp)
    rw [hrec] at hend
    exact ⟨none, _, hend, hdone D xs _ (by omega) hS (hI.put _ hi (by omega) hl rfl) ((World.putObj_heap_other (by omega)).trans hd)⟩
end
end Go.Proofs.YtkgdkpiacencjaaGreatDoor.Range
end
