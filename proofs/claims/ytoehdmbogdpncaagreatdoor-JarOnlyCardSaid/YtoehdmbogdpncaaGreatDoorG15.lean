/- Texts of the proof, joined: Seq, WordW, WordS, WordV, Shelf, WordC, Range, WordR, WordJ. -/
import Derived.OrdersHeld
import Derived.KernelRfl
import Derived.Tactics
import Derived.Test.YtoehdmbogdpncaaGreatDoorProg
import Derived.Test.YtoehdmbogdpncaaGreatDoorG14
import Derived.WalkKit
import Derived.WalkLawsBesides
import Derived.WalkSpells
import Derived.Outline
import Derived.Deep.Light
import Derived.LoopTactic
import Derived.IntWalk
import Derived.BigQuiet
import Derived.Laws.IdiomStrings
import Derived.Lib.Bytealg
import Derived.Shelf.Small.Strs
import Derived.Shelf.Small.Wraps
import Derived.Shelf.Strconv.Atoi
import Derived.Shelf.Strconv.Itoa0
import Derived.Shelf.Strconv.Itoa1
import Derived.Shelf.LaysM
import Derived.Shelf.Strconv.Itoa2
import Derived.Shelf.Strconv.Itoa3
import Derived.Shelf.Strconv.AtoiErrFast
import Derived.Shelf.Strconv.ParseIntEmpty
import Derived.Shelf.Strconv.AtoiFail
import Derived.Shelf.Strconv.Clone
import Derived.Shelf.Strconv.SyntaxError
import Derived.Shelf.LaysC
import Derived.Shelf.Strconv.ToError
import Derived.Shelf.Strconv.AtoiErr
import Derived.Shelf.Strconv.ErrVar
import Derived.Shelf.Strconv.Lower
import Derived.Shelf.Strconv.ParseUint10
import Derived.Shelf.Strconv.ParseUint10Empty
import Derived.Shelf.Strconv.ParseUint10Any
import Derived.Shelf.Strconv.ParseInt10
import Derived.Shelf.Strconv.AtoiLong
import Derived.Shelf.Strconv.AtoiInnerAll
import Derived.Shelf.Strconv.RangeError
import Derived.Shelf.Strconv.ToErrorRange
import Derived.Shelf.Strconv.AtoiAll
import Derived.Shelf.Strconv.ErrVarAll
import Derived.Shelf.Strconv.ParseUintEmpty
import Derived.Shelf.Strconv.ParseUint10b64
import Derived.Shelf.Strconv.ParseUint10b32
import Derived.Shelf.Strconv.ParseUint10b16
import Derived.Shelf.Strconv.ParseUint10b8
import Derived.Shelf.Strconv.ParseUint10At
import Derived.Shelf.Strconv.ParseInt10At64
import Derived.Shelf.Strconv.ParseInt10At32
import Derived.Shelf.Strconv.ParseInt10At16
import Derived.Shelf.Strconv.ParseInt10At8
import Derived.Shelf.Strconv.ParseInt10All
import Derived.Shelf.Strings.Search1
import Derived.Shelf.Strings.Search2
import Derived.Shelf.Strings.Search3
import Derived.Shelf.Strings.Shaped
import Derived.Shelf.GgClosure.StringsIndexFunc
import Derived.Ground.GgwProg
import Derived.Shelf.GgClosure.StringsIndexFuncTop
import Derived.Shelf.GgClosure.StringsRunes
import Derived.Shelf.Strings.Prefix
import Derived.Shelf.Strings.FuncGrows
import Derived.Ground.Names2Prog
import Derived.Shelf.Slices.SearchI
import Derived.Shelf.Strings.SlTrimAscii
import Derived.RangeFuncFrom
import Derived.RangeFuncNested
import Derived.Test.YtoehdmbogdpncaaGreatDoorG1
import Derived.RangeFuncBound
import Derived.RangeFuncCalls
import Derived.RangeFuncLeaves
import Derived.RangeFuncBox
import Derived.Shelf.Abstract
import Derived.Shelf.RegionOpen
import Derived.OwnWalkIn
import Derived.TacticsInMore
import Derived.LoopNIn
import Derived.LoopIn
import Derived.Maps.AppendAt
import Derived.Lib.Join
section
namespace Go.Proofs.YtoehdmbogdpncaaGreatDoor.Seq
section
variable {P : Program} {ops : Array Oper} {Q : Exit → Act → World → Prop} {S : World → Prop} {E : Act → World → Prop}

/-- The operations in the plan's order; behind them E. -/
def wpSeq (P : Program) (ops : Array Oper) (Q : Exit → Act → World → Prop) (S : World → Prop) (E : Act → World → Prop) : List (Oper × Bool) → Act → World → Prop
  | [], a, w => E a w
  | (o, false) :: r, a, w => ∃ v, YieldsIf P ops S o v a ∧ wpSeq P ops Q S E r (a.put o.dst v) w
  | (o, true) :: r, a, w => (Region.wanted o (yielded ops a.tmps) = true ∧ o.wp P a w (fun a' w' => S w' ∧ wpSeq P ops Q S E r a' w') Q) ∨ (Region.wanted o (yielded ops a.tmps) = false ∧ S w ∧ wpSeq P ops Q S E r (a.put o.dst undef) w)

def lay (ops : List Oper) : List (Nat × Bool) → List (Oper × Bool)
  | [] => []
  | (i, b) :: r => match ops[i]? with
    | some o => (o, b) :: lay ops r
    | none => lay ops r

/-- The plan may be gone; what is listed behind it. -/
def planTo (ops : Array Oper) : List (Nat × Bool) → Array Bool → Array Bool → Bool
  | [], l, m => l == m
  | (i, false) :: r, l, m => Region.free .any ops l i && (Region.ready .any ops l).contains i && planTo ops r (l.setIfInBounds i true) m
  | (i, true) :: r, l, m => Region.ready .any ops l == [i] && planTo ops r (l.setIfInBounds i true) m
def planOk (ops : Array Oper) : List (Nat × Bool) → Array Bool → Bool
  | [], l => (Region.ready .any ops l).isEmpty
  | (i, false) :: r, l => Region.free .any ops l i && (Region.ready .any ops l).contains i && planOk ops r (l.setIfInBounds i true)
  | (i, true) :: r, l => Region.ready .any ops l == [i] && planOk ops r (l.setIfInBounds i true)

theorem seq_gen (hs : Region.noSelect ops = true) (hQ : ∀ c a d v w, Q (.panic c) (a.put d v) w → Q (.panic c) a w) (good : List (Nat × Bool) → Array Bool → Bool) (n : Nat)
    (h0 : ∀ l a w, good [] l = true → S w → E a w → wpAnyH P .any ops Q S n l a w)
    (h1 : ∀ i r l, good ((i, false) :: r) l = (Region.free .any ops l i && (Region.ready .any ops l).contains i && good r (l.setIfInBounds i true)))
    (h2 : ∀ i r l, good ((i, true) :: r) l = (Region.ready .any ops l == [i] && good r (l.setIfInBounds i true))) :
    ∀ (plan : List (Nat × Bool)) (listed : Array Bool) (a : Act) (w : World), good plan listed = true → S w → wpSeq P ops Q S E (lay ops.toList plan) a w → wpAnyH P .any ops Q S (plan.length + n) listed a w
  | [], listed, a, w, hp, hS, h => by
    rw [List.length_nil, Nat.zero_add]; exact h0 _ _ _ hp hS h
  | (i, false) :: r, listed, a, w, hp, hS, h => by
    rw [h1] at hp
    simp only [Bool.and_eq_true] at hp
    obtain ⟨⟨hf, hr⟩, hp⟩ := hp
    obtain ⟨_, oi, hoi, _⟩ := mem_ready.1 (show i ∈ Region.ready .any ops listed by simpa using hr)
    have e : lay ops.toList ((i, false) :: r) = (oi, false) :: lay ops.toList r := by simp only [lay, Array.getElem?_toList, hoi]
    rw [e] at h
    obtain ⟨v, hy, h⟩ := h
    rw [List.length_cons, Nat.add_right_comm]
    exact wpAnyH_take hoi hs hf hr (fun c a w => hQ c a _ v w) hy hS (seq_gen hs hQ good n h0 h1 h2 r _ _ _ hp hS h)
  | (i, true) :: r, listed, a, w, hp, hS, h => by
    rw [h2] at hp
    simp only [Bool.and_eq_true, beq_iff_eq] at hp
    obtain ⟨hr, hp⟩ := hp
    obtain ⟨_, oi, hoi, _⟩ := mem_ready.1 (show i ∈ Region.ready .any ops listed by rw [hr]; simp)
    have e : lay ops.toList ((i, true) :: r) = (oi, true) :: lay ops.toList r := by simp only [lay, Array.getElem?_toList, hoi]
    rw [e] at h
    rw [List.length_cons, Nat.add_right_comm]
    refine ⟨fun h0 => (by rw [hr] at h0; cases h0), fun j hj => ?_⟩
    rw [hr, List.mem_singleton] at hj
    subst hj
    unfold wpOp
    simp only [hoi]
    rcases h with ⟨hw, h⟩ | ⟨hw, hS', h⟩
    · rw [if_pos hw]
      exact .inl (Oper.wp_mono (fun a' w' ⟨h3, h4⟩ => ⟨h3, seq_gen hs hQ good n h0 h1 h2 r _ _ _ hp h3 h4⟩) h)
    · rw [if_neg (by rw [hw]; decide)]
      exact ⟨hS', seq_gen hs hQ good n h0 h1 h2 r _ _ _ hp hS' h⟩

theorem seq_held (hs : Region.noSelect ops = true) (hQ : ∀ c a d v w, Q (.panic c) (a.put d v) w → Q (.panic c) a w) (plan : List (Nat × Bool)) (listed : Array Bool) (a : Act) (w : World) (hp : planOk ops plan listed = true) (hS : S w)
    (h : wpSeq P ops Q S (Q .normal) (lay ops.toList plan) a w) : wpAnyH P .any ops Q S plan.length listed a w :=
  seq_gen hs hQ (planOk ops) 0 (fun _ _ _ hp _ h => ⟨List.isEmpty_iff.1 hp, h⟩) (fun _ _ _ => rfl) (fun _ _ _ => rfl) plan listed a w hp hS h

/-- THE BEGINNING, where the order parts behind the plan: n operations are left, m is listed. -/
theorem region_part (plan : List (Nat × Bool)) (m : Array Bool) (n : Nat) {id : Nat} {a : Act} {w : World} (hm : P.follows .mixedOrders = true)
    (hok : (Region.noSelect ops && (plan.length + n == ops.size && planTo ops plan (Array.replicate ops.size false) m)) = true)
    (hQ : ∀ c a d v w, Q (.panic c) (a.put d v) w → Q (.panic c) a w) (hS : S w.drew)
    (h : wpSeq P ops Q S (fun a' w' => wpAnyH P .any ops Q S n m a' w') (lay ops.toList plan) a w.drew) : (Code.region id ops true).wp P Q a w := by
  simp only [Bool.and_eq_true, beq_iff_eq] at hok
  obtain ⟨hs, hl, hp⟩ := hok
  refine wp_region_held (S := S) hm ?_
  have := seq_gen (E := fun a' w' => wpAnyH P .any ops Q S n m a' w') hs hQ (fun p l => planTo ops p l m) n (fun l a w hp _ h => by
    simp only [planTo, beq_iff_eq] at hp
    subst hp
    exact h) (fun _ _ _ => rfl) (fun _ _ _ => rfl) plan _ a w.drew hp hS h
  rw [hl] at this
  exact this
/-- Where two may come up. -/
theorem either (i j : Nat) (oi oj : Oper) {n : Nat} {m : Array Bool} {a : Act} {w : World} (hr : (Region.ready .any ops m == [i, j]) = true) (hi : ops[i]? = some oi) (hj : ops[j]? = some oj)
    (wi : Region.wanted oi (yielded ops a.tmps) = true) (wj : Region.wanted oj (yielded ops a.tmps) = true)
    (h1 : ∀ K : Act → World → Prop, (∀ a' w', S w' → wpAnyH P .any ops Q S n (m.setIfInBounds i true) a' w' → K a' w') → oi.wp P a w K Q)
    (h2 : ∀ K : Act → World → Prop, (∀ a' w', S w' → wpAnyH P .any ops Q S n (m.setIfInBounds j true) a' w' → K a' w') → oj.wp P a w K Q) : wpAnyH P .any ops Q S (n + 1) m a w := by
  simp only [beq_iff_eq] at hr
  refine ⟨fun h0 => (by rw [hr] at h0; cases h0), fun k hk => ?_⟩
  rw [hr] at hk
  simp only [List.mem_cons, List.not_mem_nil, or_false] at hk
  unfold wpOp
  rcases hk with rfl | rfl
  · simp only [hi]; rw [if_pos wi]; exact .inl (h1 _ fun _ _ a b => ⟨a, b⟩)
  · simp only [hj]; rw [if_pos wj]; exact .inl (h2 _ fun _ _ a b => ⟨a, b⟩)
/-- On in one order. -/
theorem on_seq (plan : List (Nat × Bool)) {m : Array Bool} {n : Nat} {a : Act} {w : World} (hok : (Region.noSelect ops && (plan.length == n && planOk ops plan m)) = true)
    (hQ : ∀ c a d v w, Q (.panic c) (a.put d v) w → Q (.panic c) a w) (hS : S w) (h : wpSeq P ops Q S (Q .normal) (lay ops.toList plan) a w) : wpAnyH P .any ops Q S n m a w := by
  simp only [Bool.and_eq_true, beq_iff_eq] at hok
  obtain ⟨hs, hl, hp⟩ := hok
  have := seq_held hs hQ plan m a w hp hS h
  rwa [hl] at this

theorem seq_nil {a : Act} {w : World} (h : E a w) : wpSeq P ops Q S E [] a w := h
theorem seq_read {o : Oper} {r : List (Oper × Bool)} {a : Act} {w : World} {v : Value} (hw : Region.wanted o (yielded ops a.tmps) = true)
    (hy : ∀ w', S w' → (execOp a.eval o).run P w' = .ok (.value v) w') (h : wpSeq P ops Q S E r (a.put o.dst v) w) : wpSeq P ops Q S E ((o, false) :: r) a w := ⟨v, .inl ⟨hw, hy⟩, h⟩
theorem seq_do {o : Oper} {r : List (Oper × Bool)} {a : Act} {w : World} (hw : Region.wanted o (yielded ops a.tmps) = true)
    (h : ∀ K : Act → World → Prop, (∀ a' w', S w' → wpSeq P ops Q S E r a' w' → K a' w') → o.wp P a w K Q) : wpSeq P ops Q S E ((o, true) :: r) a w := .inl ⟨hw, h _ fun _ _ h1 h2 => ⟨h1, h2⟩⟩
end
end Go.Proofs.YtoehdmbogdpncaaGreatDoor.Seq
end

section
namespace Go.Proofs.YtoehdmbogdpncaaGreatDoor.WordW
open Go.RowKit Mem WordP OneB

theorem take_snocB (s : ByteArray) (k : Nat) (h : k < s.size) : s.data.toList.take (k + 1) = s.data.toList.take k ++ [s[k]] := by
  rw [List.take_succ_eq_append_getElem (by simpa using h)]; rfl
theorem drop_consB (s : ByteArray) (k : Nat) (h : k < s.size) : s.data.toList.drop k = s[k] :: s.data.toList.drop (k + 1) := List.drop_eq_getElem_cons (by simpa using h)
theorem mkB (s : ByteArray) : (⟨s.data.toList.toArray⟩ : ByteArray) = s := by apply ByteArray.ext; simp
def str (l : List UInt8) : ByteArray := ⟨l.toArray⟩
theorem str_app (a : List UInt8) (c : UInt8) : str (a ++ [c]) = str a ++ ⟨#[c]⟩ := by
  apply ByteArray.ext; simp [str, ByteArray.data_append]
theorem str_size (l : List UInt8) : (str l).size = l.length := by simp [str, ByteArray.size]

theorem setCell_marked (w : World) (g i : Nat) (cs : Array Value) (t : TypeId) (fr : Nat × Nat) (v : Value) (hg : w.heap[g]? = some (.cells cs t fr)) :
    (w.setCell ⟨g, i, none⟩ v).heap[g]? = some (.cells (cs.setIfInBounds i v) t fr) := by
  rw [setCell_eq_setRow w g i cs t fr v hg]
  exact setRow_heap w g cs _ t _ hg
/-- The bytes of a conversion, the first k of them folded. -/
def HalfRow (w : World) (g : Nat) (s : ByteArray) (k : Nat) : Prop :=
  ∃ C : Array Value, w.heap[g]? = some (.cells C 5 (C.size, C.size + 1)) ∧ s.size ≤ C.size ∧ ∀ j (hj : j < s.size), C[j]? = some (.int .u8 ((if j < k then foldB s[j] else s[j]).toNat : Int))
theorem half_cell {w : World} {g : Nat} {s : ByteArray} {k : Nat} (h : HalfRow w g s k) (j : Nat) (hj : j < s.size) : w.cell? ⟨g, j, none⟩ = some (.int .u8 ((if j < k then foldB s[j] else s[j]).toNat : Int)) ∧ w.frozen? ⟨g, j, none⟩ = false := by
  obtain ⟨C, h1, h2, h3⟩ := h
  have h4 := h3 j hj
  constructor
  · simp [World.cell?, h1, h4]
  · simp [World.frozen?, h1]; omega
theorem half_set {w : World} {g : Nat} {s : ByteArray} {k : Nat} (h : HalfRow w g s k) (hk : k < s.size) : HalfRow (w.setCell ⟨g, k, none⟩ (.int .u8 ((foldB s[k]).toNat : Int))) g s (k + 1) := by
  obtain ⟨C, h1, h2, h3⟩ := h
  refine ⟨C.setIfInBounds k (.int .u8 ((foldB s[k]).toNat : Int)), ?_, by simpa using h2, fun j hj => ?_⟩
  · have h4 := setCell_marked w g k _ _ _ (.int .u8 ((foldB s[k]).toNat : Int)) h1
    simpa using h4
  · by_cases e : j = k
    · subst e
      rw [Array.getElem?_setIfInBounds_self_of_lt (by omega), if_pos (by omega)]
    · rw [Array.getElem?_setIfInBounds_ne (by omega), h3 j hj]
      by_cases hlt : j < k
      · rw [if_pos hlt, if_pos (by omega)]
      · rw [if_neg hlt, if_neg (by omega)]
theorem half_keep {w : World} {g : Nat} {s : ByteArray} {k : Nat} (h : HalfRow w g s k) (hk : k < s.size) (he : foldB s[k] = s[k]) : HalfRow w g s (k + 1) := by
  obtain ⟨C, h1, h2, h3⟩ := h
  refine ⟨C, h1, h2, fun j hj => ?_⟩
  rw [h3 j hj]
  by_cases e : j = k
  · subst e; rw [if_neg (by omega), if_pos (by omega), he]
  · by_cases hlt : j < k
    · rw [if_pos hlt, if_pos (by omega)]
    · rw [if_neg hlt, if_neg (by omega)]
set_option maxHeartbeats 2000000 in
theorem fold_any (s : ByteArray) (w : World) (hs : s.size ≤ 4611686018427387904) :
    Calls Tryz.prog 84 #[.string s] w (Gives (.string (str (fold s.data.toList))) w) := by
  have kc := fun (w : World) (s : ByteArray) => run_bytes_of_string (P := Tryz.prog) w 9 105 5 s Tryz.underlying9 Tryz.underlying105 Tryz.underlying5
  have kb := fun (w : World) (g cap : Nat) (l : List UInt8) h => run_convert_bytes_back (P := Tryz.prog) w 105 9 5 ⟨g, 0, none⟩ cap l Tryz.underlying105 Tryz.underlying5 Tryz.underlying9 h
  have KB := Lib.hid kb
  clear kb
  go_enter Tryz.func84, Tryz.ntmps84
  go_wp2_with fail
  have hrow : HalfRow (w.alloc (.cells (bytesRow s (grownCap w s.size 0 5)) 5 ((bytesRow s (grownCap w s.size 0 5)).size, (bytesRow s (grownCap w s.size 0 5)).size + 1))).drew w.heap.size s 0 := by
    refine ⟨_, heap_alloc_new w _, by simp [bytesRow], fun j hj => ?_⟩
    rw [bytesRow_at s _ j (by simpa using hj), if_neg (by omega)]; rfl
  have hb0 : Below w.heap.size w (w.alloc (.cells (bytesRow s (grownCap w s.size 0 5)) 5 ((bytesRow s (grownCap w s.size 0 5)).size, (bytesRow s (grownCap w s.size 0 5)).size + 1))).drew := ((Below.refl _ w).alloc (Nat.le_refl _) _).drew
  generalize (w.alloc (.cells (bytesRow s (grownCap w s.size 0 5)) 5 ((bytesRow s (grownCap w s.size 0 5)).size, (bytesRow s (grownCap w s.size 0 5)).size + 1))).drew = w1 at hrow hb0 ⊢
  generalize grownCap w s.size 0 5 = C
  clear kc
  go_loopw [10] (fun i wr => ∃ k : Nat, k ≤ s.size ∧ i = .int .i64 k ∧ HalfRow wr w.heap.size s k ∧ Below w.heap.size w wr) (fun i _ => s.size - (intOf i).toNat)
  case atStart => exact ⟨0, Nat.zero_le _, rfl, hrow, hb0⟩
  case round =>
    obtain ⟨k, hk, rfl, hh, hb⟩ := hrel
    by_cases hlt : k < s.size
    · obtain ⟨c0, f0⟩ := half_cell hh k hlt
      rw [if_neg (by omega)] at c0
      have hc256 : s[k].toNat < 256 := UInt8.toNat_lt _
      have hnat := foldB_nat s[k]
      have HH := Lib.hid hh
      have hk1 : (0 : Int) ≤ (k : Int) := by omega
      have hk2 : (k : Int) < (s.size : Int) := by omega
      by_cases hup : 65 ≤ s[k].toNat ∧ s[k].toNat ≤ 90
      · have hset := half_set hh hlt
        rw [if_pos hup] at hnat
        have hi : ((foldB s[k]).toNat : Int) = (s[k].toNat : Int) + 32 := by omega
        rw [hi] at hset
        have HS := Lib.hid hset
        obtain ⟨u1, u2⟩ := hup
        clear hset hh hnat hi
        generalize s[k] = c at c0 hc256 u1 u2 HS
        go_wp2_with fail
        go_roundw
        case rel => exact ⟨k + 1, by omega, by go_num, HS.out, hb.setCell (Nat.le_refl _) _⟩
        case measure => simp [intOf]; omega
      · have hkeep : foldB s[k] = s[k] := by
          rw [if_neg hup] at hnat
          exact UInt8.toNat_inj.1 hnat
        have HS := Lib.hid (half_keep hh hlt hkeep)
        clear hkeep hh hnat
        generalize s[k] = c at c0 hc256 hup
        by_cases u1 : 65 ≤ c.toNat
        · have u2 : ¬ c.toNat ≤ 90 := fun h => hup ⟨u1, h⟩
          clear hup
          go_wp2_with fail
          go_roundw
          case rel => exact ⟨k + 1, by omega, by go_num, HS.out, hb⟩
          case measure => simp [intOf]; omega
        · have u3 : decide ((65 : Int) ≤ (c.toNat : Int)) = false := by simp; omega
          clear hup
          go_wp2_with fail
          go_roundw
          case rel => exact ⟨k + 1, by omega, by go_num, HS.out, hb⟩
          case measure => simp [intOf]; omega
    · obtain rfl : k = s.size := by omega
      have kb := KB.out wr w.heap.size C (fold s.data.toList) (fun j hj => by
        have hj' : j < s.size := by simpa [fold] using hj
        obtain ⟨c0, _⟩ := half_cell hh j hj'
        rw [if_pos hj'] at c0
        have e : (⟨w.heap.size, 0, none⟩ : Addr).add j = ⟨w.heap.size, j, none⟩ := by
          unfold Addr.add
          split
          · subst_vars; rfl
          · simp
        rw [e, c0]
        simp [fold]; rfl)
      have e : (fold s.data.toList).length = s.size := by simp [fold]
      rw [e] at kb
      clear hh hrow
      go_wp2_with fail
      go_ret
      exact ⟨rfl, hb⟩
end Go.Proofs.YtoehdmbogdpncaaGreatDoor.WordW
end

section
namespace Go.Proofs.YtoehdmbogdpncaaGreatDoor.WordS
def split (c : UInt8) : List UInt8 → List (List UInt8)
  | [] => [[]]
  | b :: l => if b == c then [] :: split c l else match split c l with
    | [] => [[b]]
    | h :: t => (b :: h) :: t
def join (c : UInt8) : List (List UInt8) → List UInt8
  | [] => []
  | a :: l => if l.isEmpty then a else a ++ c :: join c l
theorem split_ne (c : UInt8) (l : List UInt8) : split c l ≠ [] := by
  cases l with
  | nil => simp [split]
  | cons b l =>
    unfold split
    split
    · simp
    · split <;> simp
theorem split_app (c : UInt8) (a r : List UInt8) (h : a.contains c = false) : split c (a ++ c :: r) = a :: split c r := by
  induction a with
  | nil => simp [split]
  | cons b l ih =>
    rw [List.contains_cons, Bool.or_eq_false_iff] at h
    have hb : (b == c) = false := by
      have := h.1
      simp only [beq_eq_false_iff_ne] at this ⊢; exact fun e => this e.symm
    rw [List.cons_append, split, hb, ih h.2]; rfl
theorem split_none (c : UInt8) (a : List UInt8) (h : a.contains c = false) : split c a = [a] := by
  induction a with
  | nil => rfl
  | cons b l ih =>
    rw [List.contains_cons, Bool.or_eq_false_iff] at h
    have hb : (b == c) = false := by
      have := h.1
      simp only [beq_eq_false_iff_ne] at this ⊢; exact fun e => this e.symm
    rw [split, hb, ih h.2]; rfl
/-- Parted at the first. -/
theorem first_at (c : UInt8) (l : List UInt8) : l.contains c = false ∨ ∃ a r, l = a ++ c :: r ∧ a.contains c = false := by
  induction l with
  | nil => exact .inl rfl
  | cons b l ih =>
    by_cases hb : b = c
    · exact .inr ⟨[], l, by rw [hb]; rfl, rfl⟩
    · have hb' : (c == b) = false := by simp; exact fun e => hb e.symm
      rcases ih with h | ⟨a, r, rfl, h⟩
      · exact .inl (by rw [List.contains_cons, hb', h]; rfl)
      · exact .inr ⟨b :: a, r, rfl, by rw [List.contains_cons, hb', h]; rfl⟩
theorem split_len (c : UInt8) (l : List UInt8) : (split c l).length ≤ l.length + 1 := by
  induction l with
  | nil => simp [split]
  | cons b l ih =>
    unfold split
    split
    · simp; omega
    · split
      · simp
      · rename_i h t e
        rw [e] at ih; simp at ih ⊢; omega
/-- Parted at any of them. -/
theorem split_mid (c : UInt8) (a r : List UInt8) : split c (a ++ c :: r) = split c a ++ split c r := by
  induction a with
  | nil => simp [split]
  | cons b l ih =>
    rw [List.cons_append, split, split]
    by_cases hb : (b == c) = true
    · simp [hb, ih]
    · simp only [hb, ih]
      cases e : split c l with
      | nil => exact absurd e (split_ne c l)
      | cons h t => simp
/-- The byte's place. -/
theorem index_none (l : List UInt8) (c : UInt8) (h : l.contains c = false) : Lib.indexByte l c = -1 := by
  induction l with
  | nil => rfl
  | cons b l ih =>
    rw [List.contains_cons, Bool.or_eq_false_iff] at h
    have hb : (b == c) = false := by
      have := h.1
      simp only [beq_eq_false_iff_ne] at this ⊢; exact fun e => this e.symm
    rw [Lib.indexByte, hb, ih h.2]; rfl
theorem index_at (a r : List UInt8) (c : UInt8) (h : a.contains c = false) : Lib.indexByte (a ++ c :: r) c = a.length := by
  induction a with
  | nil => simp [Lib.indexByte]
  | cons b l ih =>
    rw [List.contains_cons, Bool.or_eq_false_iff] at h
    have hb : (b == c) = false := by
      have := h.1
      simp only [beq_eq_false_iff_ne] at this ⊢; exact fun e => this e.symm
    rw [List.cons_append, Lib.indexByte, hb, ih h.2]
    have e : ((l.length : Int) == -1) = false := by simp
    rw [if_neg (by simp), e]
    simp
theorem index_ge (l : List UInt8) (c : UInt8) : decide (0 ≤ Lib.indexByte l c) = l.contains c := by
  rcases first_at c l with h1 | ⟨a, r, rfl, h1⟩
  · rw [index_none l c h1, h1]; rfl
  · rw [index_at a r c h1]; simp
end Go.Proofs.YtoehdmbogdpncaaGreatDoor.WordS
end

section
namespace Go.Proofs.YtoehdmbogdpncaaGreatDoor.WordV
open Go.RowKit Mem WordP OneB WordW WordS

theorem ext_drop (s : ByteArray) (k : Nat) : (s.extract k s.size).data.toList = s.data.toList.drop k := by
  simp [ByteArray.data_extract]
  exact List.take_of_length_le (by simp)
theorem ext_take (s : ByteArray) (k : Nat) : (s.extract 0 k).data.toList = s.data.toList.take k := by
  simp [ByteArray.data_extract]
set_option maxHeartbeats 1000000 in
theorem foldOf_any (s : ByteArray) (w : World) (hs : s.size ≤ 4611686018427387904) :
    Calls Tryz.prog 91 #[.string s] w (Gives (.string (str (fold s.data.toList))) w) := by
  go_enter Tryz.func91, Tryz.ntmps91
  go_wp2_with fail
  go_loopw [3, 4] (fun v i wr => ∃ k : Nat, k ≤ s.size ∧ i = .int .i64 k ∧ v = .string (str (fold (s.data.toList.take k))) ∧ Below w.heap.size w wr) (fun _ i _ => s.size - (intOf i).toNat)
  case atStart => exact ⟨0, Nat.zero_le _, rfl, rfl, Below.refl _ _⟩
  case round =>
    obtain ⟨k, hk, rfl, rfl, hb⟩ := hrel
    by_cases hlt : k < s.size
    · have htk := take_snocB s k hlt
      have hc256 : s[k].toNat < 256 := UInt8.toNat_lt _
      have hnat := foldB_nat s[k]
      have hfs : str (fold (s.data.toList.take (k + 1))) = str (fold (s.data.toList.take k)) ++ ⟨#[foldB s[k]]⟩ := by rw [htk, fold_app, ← str_app]; rfl
      have hsz : (str (fold (s.data.toList.take k))).size ≤ s.size := by rw [str_size]; simp [fold]; omega
      have HFS := Lib.hid hfs
      clear hfs htk
      have hk1 : (0 : Int) ≤ (k : Int) := by omega
      have hk2 : (k : Int) < (s.size : Int) := by omega
      generalize str (fold (s.data.toList.take k)) = acc at hsz HFS ⊢
      by_cases hup : 65 ≤ s[k].toNat ∧ s[k].toNat ≤ 90
      · rw [if_pos hup] at hnat
        have hof : UInt8.ofNat ((s[k].toNat : Int) + 32).toNat = foldB s[k] := by
          apply UInt8.toNat_inj.1; rw [hnat, UInt8.toNat_ofNat']; omega
        have HOF := Lib.hid hof
        obtain ⟨u1, u2⟩ := hup
        clear hof hnat
        go_wp2_with fail
        with_reducible refine (oneByte_any _ _ (by omega) (by omega)).mono ?_
        rintro e w1 ⟨rfl, hb1⟩
        rw [HOF.out]
        go_wp2_with fail
        go_roundw
        case rel => exact ⟨k + 1, by omega, by go_num, by rw [HFS.out], below_cat hb hb1⟩
        case measure => simp [intOf]; omega
      · rw [if_neg hup] at hnat
        have hof : UInt8.ofNat ((s[k].toNat : Int)).toNat = foldB s[k] := by
          apply UInt8.toNat_inj.1; rw [hnat, UInt8.toNat_ofNat']; omega
        have HOF := Lib.hid hof
        clear hof hnat
        by_cases u1 : 65 ≤ s[k].toNat
        · have u2 : ¬ s[k].toNat ≤ 90 := fun h => hup ⟨u1, h⟩
          clear hup
          go_wp2_with fail
          with_reducible refine (oneByte_any _ _ (by omega) (by omega)).mono ?_
          rintro e w1 ⟨rfl, hb1⟩
          rw [HOF.out]
          go_wp2_with fail
          go_roundw
          case rel => exact ⟨k + 1, by omega, by go_num, by rw [HFS.out], below_cat hb hb1⟩
          case measure => simp [intOf]; omega
        · have u3 : decide ((65 : Int) ≤ (s[k].toNat : Int)) = false := by simp; omega
          clear hup
          go_wp2_with fail
          with_reducible refine (oneByte_any _ _ (by omega) (by omega)).mono ?_
          rintro e w1 ⟨rfl, hb1⟩
          rw [HOF.out]
          go_wp2_with fail
          go_roundw
          case rel => exact ⟨k + 1, by omega, by go_num, by rw [HFS.out], below_cat hb hb1⟩
          case measure => simp [intOf]; omega
    · obtain rfl : k = s.size := by omega
      rw [List.take_of_length_le (by simp)]
      go_wp2_with fail
      go_ret
      exact ⟨rfl, hb⟩

def badB : ByteArray := ⟨#[40, 41, 60, 62, 64, 44, 59, 58, 92, 34, 47, 91, 93, 63, 61, 123, 125]⟩
set_option maxHeartbeats 1000000 in
theorem placeOf_any (s : ByteArray) (c : UInt8) (w : World) (hs : s.size ≤ 4611686018427387904) :
    Calls Tryz.prog 66 #[.string s, .int .u8 c.toNat] w (Gives (.int .i64 (Lib.indexByte s.data.toList c)) w) := by
  go_enter Tryz.func66, Tryz.ntmps66
  go_wp2_with fail
  go_loopw [5] (fun i wr => ∃ k : Nat, k ≤ s.size ∧ i = .int .i64 k ∧ (s.data.toList.take k).contains c = false ∧ Below w.heap.size w wr) (fun i _ => s.size - (intOf i).toNat)
  case atStart => exact ⟨0, Nat.zero_le _, rfl, by simp, Below.refl _ _⟩
  case round =>
    obtain ⟨k, hk, rfl, hct, hb⟩ := hrel
    have HC := Lib.hid hct
    clear hct
    by_cases hlt : k < s.size
    · have hk1 : (0 : Int) ≤ (k : Int) := by omega
      have hk2 : (k : Int) < (s.size : Int) := by omega
      by_cases heq : s[k] = c
      · have e1 : ((s[k].toNat : Int) == (c.toNat : Int)) = true := by rw [heq]; simp
        have hres : Lib.indexByte s.data.toList c = (k : Int) := by
          have e : s.data.toList = s.data.toList.take k ++ s.data.toList.drop k := (List.take_append_drop k _).symm
          rw [e, drop_consB s k hlt, heq, index_at _ _ _ HC.out]
          simp; omega
        have HR := Lib.hid hres
        clear hres
        go_wp2_with fail
        go_ret
        exact ⟨by rw [HR.out]; rfl, hb⟩
      · have e1 : ((s[k].toNat : Int) == (c.toNat : Int)) = false := by simp; intro h; exact heq (UInt8.toNat_inj.1 (by omega))
        have hc0 : (s.data.toList.take (k + 1)).contains c = false := by
          rw [take_snocB s k hlt, List.contains_append, HC.out]; simpa using fun e => heq e.symm
        have HC0 := Lib.hid hc0
        clear hc0
        go_wp2_with fail
        go_roundw
        case rel => exact ⟨k + 1, by omega, by go_num, HC0.out, hb⟩
        case measure => simp [intOf]; omega
    · obtain rfl : k = s.size := by omega
      have hct := HC.out
      rw [List.take_of_length_le (by simp)] at hct
      have HR := Lib.hid (index_none _ _ hct)
      clear hct
      go_wp2_with fail
      go_ret
      exact ⟨by rw [HR.out]; rfl, hb⟩
end Go.Proofs.YtoehdmbogdpncaaGreatDoor.WordV
end

section
namespace Go.Proofs
open Go.Shelf
def Tryz.lays137_ren : Go.Shelf.Ren := ⟨fun | 137 => 125 | 217 => 103 | 266 => 116 | n => n, fun | 9 => 9 | 5 => 5 | 3 => 3 | n => n, fun | n => n⟩
theorem Tryz.lays137 : Go.Proofs.Lays.n137 Tryz.prog Tryz.lays137_ren := {
  mixed := by kernel_rfl
  f137 := Tryz.func125.trans (congrArg some (by kernel_rfl))
  f217 := Tryz.func103.trans (congrArg some (by kernel_rfl))
  f266 := Tryz.func116.trans (congrArg some (by kernel_rfl))
  t3 := Tryz.underlying3
  a3 := Tryz.isAgg3
  z3 := Tryz.sizeOf3
  v3 := Tryz.zeroValue3
  t5 := Tryz.underlying5
  a5 := Tryz.isAgg5
  z5 := Tryz.sizeOf5
  v5 := Tryz.zeroValue5
  t9 := Tryz.underlying9
  a9 := Tryz.isAgg9
  z9 := Tryz.sizeOf9
  v9 := Tryz.zeroValue9 }
open Go.RowKit in
theorem Tryz.strings_IndexByte (s : ByteArray) (c : Int) (w : World) :
    Calls Tryz.prog 125 #[.string s, .int .u8 c] w fun e w' => e = .returned (.int .i64 (Lib.indexByte s.data.toList c.toNat.toUInt8)) ∧ w' = w := Any.strings_IndexByte Tryz.lays137 s c w
def Tryz.lays103_ren : Go.Shelf.Ren := ⟨fun | 103 => 83 | 210 => 98 | 206 => 74 | n => n, fun | 9 => 9 | 4 => 4 | 24 => 91 | 3 => 3 | n => n, fun | n => n⟩
open Go.RowKit in
def Tryz.lays129_ren : Go.Shelf.Ren := ⟨fun | 129 => 136 | n => n, fun | 53 => 126 | 3 => 3 | 4 => 4 | 46 => 111 | 5 => 5 | 9 => 9 | n => n, fun | n => n⟩
def Tryz.laysM171_ren : Go.Shelf.Ren := ⟨fun | 171 => 96 | 243 => 112 | 246 => 124 | 283 => 129 | 284 => 130 | 285 => 131 | 286 => 132 | 129 => 136 | 317 => 135 | 318 => 137 | 319 => 138 | 320 => 139 | 337 => 140 | 338 => 141 | n => n, fun | 3 => 3 | 9 => 9 | 2 => 2 | 4 => 4 | 171 => 132 | 0 => 0 | 53 => 126 | 37 => 105 | 5 => 5 | 173 => 135 | 212 => 143 | 51 => 116 | 20 => 20 | 213 => 144 | 46 => 111 | 232 => 147 | 233 => 148 | n => n, fun | 17 => 3 | 18 => 4 | 19 => 5 | n => n⟩
theorem Tryz.laysM171 : Go.Proofs.LaysM.n171 Tryz.prog Tryz.laysM171_ren := {
  mixed := by kernel_rfl
  f129 := Tryz.func136.trans (congrArg some (by kernel_rfl))
  f171 := Tryz.func96.trans (congrArg some (by kernel_rfl))
  f243 := Tryz.func112.trans (congrArg some (by kernel_rfl))
  f246 := Tryz.func124.trans (congrArg some (by kernel_rfl))
  f283 := Tryz.func129.trans (congrArg some (by kernel_rfl))
  f284 := Tryz.func130.trans (congrArg some (by kernel_rfl))
  f285 := Tryz.func131.trans (congrArg some (by kernel_rfl))
  f286 := Tryz.func132.trans (congrArg some (by kernel_rfl))
  f317 := Tryz.func135.trans (congrArg some (by kernel_rfl))
  f318 := Tryz.func137.trans (congrArg some (by kernel_rfl))
  f319 := Tryz.func138.trans (congrArg some (by kernel_rfl))
  f320 := Tryz.func139.trans (congrArg some (by kernel_rfl))
  f337 := Tryz.func140.trans (congrArg some (by kernel_rfl))
  f338 := Tryz.func141.trans (congrArg some (by kernel_rfl))
  t0 := Tryz.underlying0
  a0 := Tryz.isAgg0
  z0 := Tryz.sizeOf0
  v0 := Tryz.zeroValue0
  t2 := Tryz.underlying2
  a2 := Tryz.isAgg2
  z2 := Tryz.sizeOf2
  v2 := Tryz.zeroValue2
  t3 := Tryz.underlying3
  a3 := Tryz.isAgg3
  z3 := Tryz.sizeOf3
  v3 := Tryz.zeroValue3
  t4 := Tryz.underlying4
  a4 := Tryz.isAgg4
  z4 := Tryz.sizeOf4
  v4 := Tryz.zeroValue4
  t5 := Tryz.underlying5
  a5 := Tryz.isAgg5
  z5 := Tryz.sizeOf5
  v5 := Tryz.zeroValue5
  t9 := Tryz.underlying9
  a9 := Tryz.isAgg9
  z9 := Tryz.sizeOf9
  v9 := Tryz.zeroValue9
  t20 := Tryz.underlying20
  a20 := Tryz.isAgg20
  z20 := Tryz.sizeOf20
  v20 := Tryz.zeroValue20
  t37 := Tryz.underlying105
  a37 := Tryz.isAgg105
  z37 := Tryz.sizeOf105
  v37 := Tryz.zeroValue105
  t46 := Tryz.underlying111
  a46 := Tryz.isAgg111
  z46 := Tryz.sizeOf111
  v46 := Tryz.zeroValue111
  t51 := Tryz.underlying116
  a51 := Tryz.isAgg116
  z51 := Tryz.sizeOf116
  v51 := Tryz.zeroValue116
  t53 := Tryz.underlying126
  a53 := Tryz.isAgg126
  z53 := Tryz.sizeOf126
  v53 := Tryz.zeroValue126
  t171 := Tryz.underlying132
  a171 := Tryz.isAgg132
  z171 := Tryz.sizeOf132
  v171 := Tryz.zeroValue132
  t173 := Tryz.underlying135
  a173 := Tryz.isAgg135
  z173 := Tryz.sizeOf135
  v173 := Tryz.zeroValue135
  t212 := Tryz.underlying143
  a212 := Tryz.isAgg143
  z212 := Tryz.sizeOf143
  v212 := Tryz.zeroValue143
  t213 := Tryz.underlying144
  a213 := Tryz.isAgg144
  z213 := Tryz.sizeOf144
  t232 := Tryz.underlying147
  a232 := Tryz.isAgg147
  z232 := Tryz.sizeOf147
  v232 := Tryz.zeroValue147
  t233 := Tryz.underlying148
  a233 := Tryz.isAgg148
  z233 := Tryz.sizeOf148
  v233 := Tryz.zeroValue148
  g17 := by kernel_rfl
  g18 := by kernel_rfl
  g19 := by kernel_rfl
  i0 := by kernel_rfl
  i2 := by kernel_rfl
  i3 := by kernel_rfl
  i4 := by kernel_rfl
  i5 := by kernel_rfl
  i9 := by kernel_rfl
  i20 := by kernel_rfl
  i37 := by kernel_rfl
  i46 := by kernel_rfl
  i51 := by kernel_rfl
  i53 := by kernel_rfl
  i171 := by kernel_rfl
  i173 := by kernel_rfl
  i212 := by kernel_rfl
  i232 := by kernel_rfl
  i233 := by kernel_rfl
  m17 := by kernel_rfl
  m18 := by kernel_rfl
  m19 := by kernel_rfl }
open Go.RowKit Go.Sort Go.Lib in
theorem Tryz.strconv_Itoa (n : Int) (h0 : -9223372036854775808 ≤ n) (h1 : n ≤ 9223372036854775807) (w : World) (htab : Lib.TabIs Tryz.prog w "internal/strconv.uint64pow10" .u64 Lib.pow10Tab) :
    Calls Tryz.prog 96 #[.int .i64 n] w fun e w' => e = .returned (.string ⟨(Lib.itoa n).toArray⟩) ∧ ∃ k os, w' = grow (w.drewN k) os := Any.strconv_Itoa Tryz.laysM171 n h0 h1 w htab
def Tryz.laysC172_ren : Go.Shelf.Ren := ⟨fun | 172 => 95 | 244 => 110 | 245 => 111 | 247 => 119 | 279 => 120 | 280 => 121 | 281 => 122 | 282 => 123 | 287 => 126 | 316 => 127 | 171 => 96 | 205 => 128 | 321 => 133 | 322 => 134 | 243 => 112 | 246 => 124 | 283 => 129 | 284 => 130 | 285 => 131 | 286 => 132 | 129 => 136 | 317 => 135 | 318 => 137 | 319 => 138 | 320 => 139 | 337 => 140 | 338 => 141 | n => n, fun | 9 => 9 | 3 => 3 | 75 => 101 | 76 => 102 | 4 => 4 | 5 => 5 | 167 => 119 | 37 => 105 | 0 => 0 | 85 => 120 | 2 => 2 | 168 => 122 | 53 => 126 | 175 => 127 | 46 => 111 | 210 => 130 | 127 => 138 | 145 => 141 | 143 => 139 | 21 => 21 | 171 => 132 | 173 => 135 | 212 => 143 | 51 => 116 | 20 => 20 | 213 => 144 | 232 => 147 | 233 => 148 | 80 => 149 | n => n, fun | 15 => 1 | 16 => 2 | 17 => 3 | 18 => 4 | 19 => 5 | n => n⟩
theorem Tryz.laysC172 : Go.Proofs.LaysC.n172 Tryz.prog Tryz.laysC172_ren := {
  mixed := by kernel_rfl
  f129 := Tryz.func136.trans (congrArg some (by kernel_rfl))
  f171 := Tryz.func96.trans (congrArg some (by kernel_rfl))
  f172 := Tryz.func95.trans (congrArg some (by kernel_rfl))
  f205 := Tryz.func128.trans (congrArg some (by kernel_rfl))
  f243 := Tryz.func112.trans (congrArg some (by kernel_rfl))
  f244 := Tryz.func110.trans (congrArg some (by kernel_rfl))
  f245 := Tryz.func111.trans (congrArg some (by kernel_rfl))
  f246 := Tryz.func124.trans (congrArg some (by kernel_rfl))
  f247 := Tryz.func119.trans (congrArg some (by kernel_rfl))
  f279 := Tryz.func120.trans (congrArg some (by kernel_rfl))
  f280 := Tryz.func121.trans (congrArg some (by kernel_rfl))
  f281 := Tryz.func122.trans (congrArg some (by kernel_rfl))
  f282 := Tryz.func123.trans (congrArg some (by kernel_rfl))
  f283 := Tryz.func129.trans (congrArg some (by kernel_rfl))
  f284 := Tryz.func130.trans (congrArg some (by kernel_rfl))
  f285 := Tryz.func131.trans (congrArg some (by kernel_rfl))
  f286 := Tryz.func132.trans (congrArg some (by kernel_rfl))
  f287 := Tryz.func126.trans (congrArg some (by kernel_rfl))
  f316 := Tryz.func127.trans (congrArg some (by kernel_rfl))
  f317 := Tryz.func135.trans (congrArg some (by kernel_rfl))
  f318 := Tryz.func137.trans (congrArg some (by kernel_rfl))
  f319 := Tryz.func138.trans (congrArg some (by kernel_rfl))
  f320 := Tryz.func139.trans (congrArg some (by kernel_rfl))
  f321 := Tryz.func133.trans (congrArg some (by kernel_rfl))
  f322 := Tryz.func134.trans (congrArg some (by kernel_rfl))
  f337 := Tryz.func140.trans (congrArg some (by kernel_rfl))
  f338 := Tryz.func141.trans (congrArg some (by kernel_rfl))
  t0 := Tryz.underlying0
  a0 := Tryz.isAgg0
  z0 := Tryz.sizeOf0
  v0 := Tryz.zeroValue0
  t2 := Tryz.underlying2
  a2 := Tryz.isAgg2
  z2 := Tryz.sizeOf2
  v2 := Tryz.zeroValue2
  t3 := Tryz.underlying3
  a3 := Tryz.isAgg3
  z3 := Tryz.sizeOf3
  v3 := Tryz.zeroValue3
  t4 := Tryz.underlying4
  a4 := Tryz.isAgg4
  z4 := Tryz.sizeOf4
  v4 := Tryz.zeroValue4
  t5 := Tryz.underlying5
  a5 := Tryz.isAgg5
  z5 := Tryz.sizeOf5
  v5 := Tryz.zeroValue5
  t9 := Tryz.underlying9
  a9 := Tryz.isAgg9
  z9 := Tryz.sizeOf9
  v9 := Tryz.zeroValue9
  t20 := Tryz.underlying20
  a20 := Tryz.isAgg20
  z20 := Tryz.sizeOf20
  v20 := Tryz.zeroValue20
  t21 := Tryz.underlying21
  a21 := Tryz.isAgg21
  z21 := Tryz.sizeOf21
  v21 := Tryz.zeroValue21
  t37 := Tryz.underlying105
  a37 := Tryz.isAgg105
  z37 := Tryz.sizeOf105
  v37 := Tryz.zeroValue105
  t46 := Tryz.underlying111
  a46 := Tryz.isAgg111
  z46 := Tryz.sizeOf111
  v46 := Tryz.zeroValue111
  t51 := Tryz.underlying116
  a51 := Tryz.isAgg116
  z51 := Tryz.sizeOf116
  v51 := Tryz.zeroValue116
  t53 := Tryz.underlying126
  a53 := Tryz.isAgg126
  z53 := Tryz.sizeOf126
  v53 := Tryz.zeroValue126
  t75 := Tryz.underlying101
  a75 := Tryz.isAgg101
  z75 := Tryz.sizeOf101
  v75 := Tryz.zeroValue101
  t76 := Tryz.underlying102
  a76 := Tryz.isAgg102
  z76 := Tryz.sizeOf102
  v76 := Tryz.zeroValue102
  t85 := Tryz.underlying120
  a85 := Tryz.isAgg120
  z85 := Tryz.sizeOf120
  v85 := Tryz.zeroValue120
  t127 := Tryz.underlying138
  a127 := Tryz.isAgg138
  z127 := Tryz.sizeOf138
  v127 := Tryz.zeroValue138
  t143 := Tryz.underlying139
  a143 := Tryz.isAgg139
  z143 := Tryz.sizeOf139
  v143 := Tryz.zeroValue139
  t145 := Tryz.underlying141
  a145 := Tryz.isAgg141
  z145 := Tryz.sizeOf141
  v145 := Tryz.zeroValue141
  t167 := Tryz.underlying119
  a167 := Tryz.isAgg119
  z167 := Tryz.sizeOf119
  v167 := Tryz.zeroValue119
  t168 := Tryz.underlying122
  a168 := Tryz.isAgg122
  z168 := Tryz.sizeOf122
  v168 := Tryz.zeroValue122
  t171 := Tryz.underlying132
  a171 := Tryz.isAgg132
  z171 := Tryz.sizeOf132
  v171 := Tryz.zeroValue132
  t173 := Tryz.underlying135
  a173 := Tryz.isAgg135
  z173 := Tryz.sizeOf135
  v173 := Tryz.zeroValue135
  t175 := Tryz.underlying127
  a175 := Tryz.isAgg127
  z175 := Tryz.sizeOf127
  v175 := Tryz.zeroValue127
  t210 := Tryz.underlying130
  a210 := Tryz.isAgg130
  z210 := Tryz.sizeOf130
  v210 := Tryz.zeroValue130
  t212 := Tryz.underlying143
  a212 := Tryz.isAgg143
  z212 := Tryz.sizeOf143
  v212 := Tryz.zeroValue143
  t213 := Tryz.underlying144
  a213 := Tryz.isAgg144
  z213 := Tryz.sizeOf144
  t232 := Tryz.underlying147
  a232 := Tryz.isAgg147
  z232 := Tryz.sizeOf147
  v232 := Tryz.zeroValue147
  t233 := Tryz.underlying148
  a233 := Tryz.isAgg148
  z233 := Tryz.sizeOf148
  v233 := Tryz.zeroValue148
  g15 := by kernel_rfl
  g16 := by kernel_rfl
  g17 := by kernel_rfl
  g18 := by kernel_rfl
  g19 := by kernel_rfl
  t80 := Tryz.underlying149
  a80 := Tryz.isAgg149
  z80 := Tryz.sizeOf149
  v80 := Tryz.zeroValue149
  i0 := by kernel_rfl
  i2 := by kernel_rfl
  i3 := by kernel_rfl
  i4 := by kernel_rfl
  i5 := by kernel_rfl
  i9 := by kernel_rfl
  i20 := by kernel_rfl
  i21 := by kernel_rfl
  i37 := by kernel_rfl
  i46 := by kernel_rfl
  i51 := by kernel_rfl
  i53 := by kernel_rfl
  i75 := by kernel_rfl
  i76 := by kernel_rfl
  i80 := by kernel_rfl
  i85 := by kernel_rfl
  i127 := by kernel_rfl
  i143 := by kernel_rfl
  i145 := by kernel_rfl
  i167 := by kernel_rfl
  i168 := by kernel_rfl
  i171 := by kernel_rfl
  i173 := by kernel_rfl
  i175 := by kernel_rfl
  i210 := by kernel_rfl
  i212 := by kernel_rfl
  i232 := by kernel_rfl
  i233 := by kernel_rfl
  m15 := by kernel_rfl
  m16 := by kernel_rfl
  m17 := by kernel_rfl
  m18 := by kernel_rfl
  m19 := by kernel_rfl
  c0 := by kernel_rfl
  c2 := by kernel_rfl
  c3 := by kernel_rfl
  c4 := by kernel_rfl
  c5 := by kernel_rfl
  c9 := by kernel_rfl
  c20 := by kernel_rfl
  c21 := by kernel_rfl
  c37 := by kernel_rfl
  c46 := by kernel_rfl
  c51 := by kernel_rfl
  c53 := by kernel_rfl
  c75 := by kernel_rfl
  c76 := by kernel_rfl
  c80 := by kernel_rfl
  c85 := by kernel_rfl
  c127 := by kernel_rfl
  c143 := by kernel_rfl
  c145 := by kernel_rfl
  c167 := by kernel_rfl
  c168 := by kernel_rfl
  c171 := by kernel_rfl
  c173 := by kernel_rfl
  c175 := by kernel_rfl
  c210 := by kernel_rfl
  c212 := by kernel_rfl
  c213 := by kernel_rfl
  c232 := by kernel_rfl
  c233 := by kernel_rfl }
open Go.RowKit in
theorem Tryz.strconv_Atoi_ok (s : ByteArray) (hmax : s.size ≤ 9223372036854775806) (v : Int) (h : Lib.atoiAll s.data.toList = .ok v) (w : World) :
    Calls Tryz.prog 95 #[.string s] w fun e w' => e = .returned (.tuple #[.int .i64 v, .nilIface]) ∧ (w' = w ∨ ∃ t, w' = Lib.bytesWorld w 5 t) := Any.strconv_Atoi_ok Tryz.laysC172 s hmax v h w
open Go.RowKit in
theorem Tryz.strconv_Atoi_syntax (s : ByteArray) (hlim : s.size ≤ 281474976710656) (h : (∀ v, Lib.atoiAll s.data.toList ≠ .ok v) ∧ Lib.atoiAll s.data.toList ≠ .range) (ev : Value) (w : World) (hv : w.cell? ⟨1, 0, none⟩ = some ev) (hev : ev = .nilIface ∨ ∃ te pe, ev = .iface te pe) :
    Calls Tryz.prog 95 #[.string s] w fun e w' => ∃ N, e = .returned (.tuple #[.int .i64 (0), .iface 122 (.pointer (some ⟨N, 0, none⟩))]) ∧ w.heap.size ≤ N ∧ w'.heap[N]? = some (.cells #[.string ⟨#[65, 116, 111, 105]⟩, .string s, ev] 130 (0, 0)) ∧ Below w.heap.size w w' := Any.strconv_Atoi_syntax Tryz.laysC172 s hlim (by rcases he : Lib.atoiAll s.data.toList with v | _ | _ <;> first | rfl | exact absurd he (h.1 v) | exact absurd he h.2) ev w hv hev
open Go.RowKit in
theorem Tryz.strconv_Atoi_range (s : ByteArray) (hlim : s.size ≤ 281474976710656) (h : Lib.atoiAll s.data.toList = .range) (ev : Value) (w : World) (hv : w.cell? ⟨2, 0, none⟩ = some ev) (hev : ev = .nilIface ∨ ∃ te pe, ev = .iface te pe) :
    Calls Tryz.prog 95 #[.string s] w fun e w' => ∃ N, e = .returned (.tuple #[.int .i64 (Lib.atoiSat s.data.toList), .iface 122 (.pointer (some ⟨N, 0, none⟩))]) ∧ w.heap.size ≤ N ∧ w'.heap[N]? = some (.cells #[.string ⟨#[65, 116, 111, 105]⟩, .string s, ev] 130 (0, 0)) ∧ Below w.heap.size w w' := Any.strconv_Atoi_range Tryz.laysC172 s hlim h ev w hv hev
def Tryz.lays143_ren : Go.Shelf.Ren := ⟨fun | 143 => 77 | 219 => 88 | 217 => 103 | 225 => 104 | 224 => 105 | 267 => 106 | 266 => 116 | 314 => 117 | n => n, fun | 9 => 9 | 3 => 3 | 4 => 4 | 5 => 5 | 46 => 111 | 146 => 117 | 51 => 116 | n => n, fun | 1 => 0 | n => n⟩
open Go.RowKit Go.Lib in
def Tryz.lays144_ren : Go.Shelf.Ren := ⟨fun | 144 => 61 | 143 => 77 | 219 => 88 | 217 => 103 | 225 => 104 | 224 => 105 | 267 => 106 | 266 => 116 | 314 => 117 | n => n, fun | 9 => 9 | 4 => 4 | 3 => 3 | 5 => 5 | 46 => 111 | 146 => 117 | 51 => 116 | n => n, fun | 1 => 0 | n => n⟩
theorem Tryz.lays144 : Go.Proofs.Lays.n144 Tryz.prog Tryz.lays144_ren := {
  mixed := by kernel_rfl
  f143 := Tryz.func77.trans (congrArg some (by kernel_rfl))
  f144 := Tryz.func61.trans (congrArg some (by kernel_rfl))
  f217 := Tryz.func103.trans (congrArg some (by kernel_rfl))
  f219 := Tryz.func88.trans (congrArg some (by kernel_rfl))
  f224 := Tryz.func105.trans (congrArg some (by kernel_rfl))
  f225 := Tryz.func104.trans (congrArg some (by kernel_rfl))
  f266 := Tryz.func116.trans (congrArg some (by kernel_rfl))
  f267 := Tryz.func106.trans (congrArg some (by kernel_rfl))
  f314 := Tryz.func117.trans (congrArg some (by kernel_rfl))
  t3 := Tryz.underlying3
  a3 := Tryz.isAgg3
  z3 := Tryz.sizeOf3
  v3 := Tryz.zeroValue3
  t4 := Tryz.underlying4
  a4 := Tryz.isAgg4
  z4 := Tryz.sizeOf4
  v4 := Tryz.zeroValue4
  t5 := Tryz.underlying5
  a5 := Tryz.isAgg5
  z5 := Tryz.sizeOf5
  v5 := Tryz.zeroValue5
  t9 := Tryz.underlying9
  a9 := Tryz.isAgg9
  z9 := Tryz.sizeOf9
  v9 := Tryz.zeroValue9
  t46 := Tryz.underlying111
  a46 := Tryz.isAgg111
  z46 := Tryz.sizeOf111
  v46 := Tryz.zeroValue111
  t51 := Tryz.underlying116
  a51 := Tryz.isAgg116
  z51 := Tryz.sizeOf116
  v51 := Tryz.zeroValue116
  t146 := Tryz.underlying117
  a146 := Tryz.isAgg117
  z146 := Tryz.sizeOf117
  v146 := Tryz.zeroValue117
  g1 := by kernel_rfl }
open Go.RowKit Go.Lib in
theorem Tryz.strings_Contains_one (s : ByteArray) (c : UInt8) (w : World) :
    Calls Tryz.prog 61 #[.string s, .string ⟨#[c]⟩] w fun e w' => e = .returned (.bool (decide (0 ≤ Lib.indexByte s.data.toList c))) ∧ w' = w := Any.strings_Contains_one Tryz.lays144 s c w
def Tryz.laysM219_ren : Go.Shelf.Ren := ⟨fun | 219 => 88 | 217 => 103 | 225 => 104 | 224 => 105 | 267 => 106 | 266 => 116 | 314 => 117 | n => n, fun | 9 => 9 | 3 => 3 | 4 => 4 | 5 => 5 | 46 => 111 | 146 => 117 | 51 => 116 | n => n, fun | 1 => 0 | n => n⟩
def Tryz.lays100_ren : Go.Shelf.Ren := ⟨fun | 100 => 82 | 207 => 97 | n => n, fun | 9 => 9 | 4 => 4 | 3 => 3 | n => n, fun | n => n⟩
theorem Tryz.lays100 : Go.Proofs.Lays.n100 Tryz.prog Tryz.lays100_ren := {
  mixed := by kernel_rfl
  f100 := Tryz.func82.trans (congrArg some (by kernel_rfl))
  f207 := Tryz.func97.trans (congrArg some (by kernel_rfl))
  t3 := Tryz.underlying3
  a3 := Tryz.isAgg3
  z3 := Tryz.sizeOf3
  v3 := Tryz.zeroValue3
  t4 := Tryz.underlying4
  a4 := Tryz.isAgg4
  z4 := Tryz.sizeOf4
  v4 := Tryz.zeroValue4
  t9 := Tryz.underlying9
  a9 := Tryz.isAgg9
  z9 := Tryz.sizeOf9
  v9 := Tryz.zeroValue9 }
open Go.RowKit Go.Lib in
theorem Tryz.strings_HasSuffix (s p : ByteArray) (w : World) (hs : s.size ≤ 9223372036854775807) :
    Calls Tryz.prog 82 #[.string s, .string p] w fun e w' => e = .returned (.bool (Lib.hasSuffix s.data.toList p.data.toList)) ∧ w' = w := Any.strings_HasSuffix Tryz.lays100 s p w hs
end Go.Proofs
end

section
namespace Go.Proofs.YtoehdmbogdpncaaGreatDoor.WordC
open Go.RowKit Mem WordP OneB WordW WordS

theorem index_any (s : ByteArray) (c : UInt8) (w : World) :
    Calls Tryz.prog 125 #[.string s, .int .u8 c.toNat] w (fun e w' => e = .returned (.int .i64 (Lib.indexByte s.data.toList c)) ∧ w = w') := by
  have h := Tryz.strings_IndexByte s c.toNat w
  have e : ((c.toNat : Int)).toNat.toUInt8 = c := by simp
  rw [e] at h
  exact h.mono fun _ _ h => ⟨h.1, h.2.symm⟩
/-- What Cut says. -/
def cut (c : UInt8) (l : List UInt8) : List UInt8 × List UInt8 × Bool :=
  if l.contains c then (l.take (Lib.indexByte l c).toNat, l.drop ((Lib.indexByte l c).toNat + 1), true) else (l, [], false)
theorem cut_none {c : UInt8} {l : List UInt8} (h : l.contains c = false) : cut c l = (l, [], false) := by unfold cut; rw [h]; rfl
theorem cut_at {c : UInt8} {a r : List UInt8} (h : a.contains c = false) : cut c (a ++ c :: r) = (a, r, true) := by
  unfold cut
  rw [index_at a r c h, if_pos (by simp)]
  simp
theorem ext_drop (s : ByteArray) (k : Nat) : s.extract k s.size = str (s.data.toList.drop k) := by
  apply ByteArray.ext; apply Array.ext'
  simp [str, ByteArray.data_extract]
  exact List.take_of_length_le (by simp)
theorem ext_take (s : ByteArray) (k : Nat) : s.extract 0 k = str (s.data.toList.take k) := by
  apply ByteArray.ext; apply Array.ext'
  simp [str, ByteArray.data_extract]
def Cuts (p : List UInt8 × List UInt8 × Bool) (w : World) (e : Ending) (w' : World) : Prop := e = .returned (.tuple #[.string (str p.1), .string (str p.2.1), .bool p.2.2]) ∧ Below w.heap.size w w'
theorem cut_any (s : ByteArray) (c : UInt8) (w : World) (hs : s.size ≤ 4611686018427387904) :
    Calls Tryz.prog 114 #[.string s, .int .u8 c.toNat] w (Cuts (cut c s.data.toList) w) := by
  have CI := Lib.hid (fun w' => index_any s c w')
  rcases first_at c s.data.toList with h | ⟨a, r, hl, h⟩
  · rw [index_none _ _ h] at CI
    rw [cut_none h]
    have hst : str s.data.toList = s := mkB s
    have HS := Lib.hid hst
    clear h hst
    go_enter Tryz.func114, Tryz.ntmps114
    go_wp2_with fail
    with_reducible refine (CI.out _).mono ?_
    rintro e w1 ⟨rfl, rfl⟩
    go_wp2_with fail
    go_ret3
    refine ⟨?_, Below.refl _ _⟩
    show _ = Ending.returned (.tuple #[.string (str s.data.toList), .string (str []), .bool false])
    rw [HS.out]
    rfl
  · have hz : a.length + 1 + r.length = s.size := by
      have : s.data.toList.length = s.size := by simp
      rw [hl] at this; simp at this; omega
    have hix : Lib.indexByte s.data.toList c = (a.length : Int) := by rw [hl]; exact index_at a r c h
    have he1 : s.extract 0 a.length = str a := by rw [ext_take, hl]; simp
    have he2 : s.extract (a.length + 1) s.size = str r := by rw [ext_drop, hl]; simp
    have hcut : cut c s.data.toList = (a, r, true) := by rw [hl]; exact cut_at h
    rw [hix] at CI
    rw [hcut]
    have H1 := Lib.hid he1; have H2 := Lib.hid he2
    clear he1 he2 hcut hix hl h
    generalize a.length = n at hz H1 H2 CI
    have hw1 : (0 : Int) ≤ (n : Int) := by omega
    have hw2 : (n : Int) ≤ (s.size : Int) := by omega
    have hw3 : (n : Int) + 1 ≤ (s.size : Int) := by omega
    go_enter Tryz.func114, Tryz.ntmps114
    go_wp2_with fail
    with_reducible refine (CI.out _).mono ?_
    rintro e w1 ⟨rfl, rfl⟩
    go_wp2_with fail
    go_quiet (fail)
    go_wp2_with fail
    go_ret3
    refine ⟨?_, ⟨rfl, rfl, rfl, Nat.le_refl _, fun _ _ => rfl⟩⟩
    show _ = Ending.returned (.tuple #[.string (str a), .string (str r), .bool true])
    rw [← H1.out, ← H2.out]
    rfl
end Go.Proofs.YtoehdmbogdpncaaGreatDoor.WordC
end

section
namespace Go.Proofs.YtoehdmbogdpncaaGreatDoor.Range
open Go.RowKit
section
variable {α : Type} {F : Fence} {n : Nat} {P : Program}

/-- It stands while blocks are made and block b turns. -/
def Lets (b : Nat) (J : List α → World → Prop) : Prop := ∀ xs W W' row, J xs W → W.grownBy W' row → (row = none ∨ row = some b) → J xs W'
/-- The iterator's word: it hands out what S says, one by one; between the rounds it turns block b alone; it reads blocks of K. -/
def Hands (F : Fence) (n : Nat) (P : Program) (g : Nat) (lb : Array Value) (encs : α → Array Value) (b : Nat) (K : Nat → Prop) (S : List α → Prop) (N : Nat) (w : World) : Prop :=
  ∀ (l : Nat) (J : List α → World → Prop) (W : World), (∀ k, K k → W.heap[k]? = w.heap[k]?) → w.heap.size ≤ W.heap.size → Lets b J →
    (∀ pre x V, J pre V → pre.length < N → YieldAt F (n - 1) P l (encs x) V fun e V' => e = .returned (.bool true) ∧ J (pre ++ [x]) V' ∧ (∀ k, K k → V'.heap[k]? = V.heap[k]?) ∧ V.heap.size ≤ V'.heap.size) →
    J [] W → CallsIn F n P g (#[.func (.yield l) #[] #[]] ++ lb) W fun e W' => (∃ v, e = .returned v) ∧ ∃ xs, S xs ∧ J xs W'
/-- What the caller says of its own: it stands while block b turns, and what is no cells from block B on. -/
def Mine (b B : Nat) (I : List α → World → Prop) : Prop := ∀ xs W W' row, I xs W → W.grownBy W' row → (∀ r, row = some r → r = b ∨ (B ≤ r ∧ ∃ o : Obj, W.heap[r]? = some o ∧ o.isCells = false)) → I xs W'
/-- The body's end. -/
def Round (K : Nat → Prop) (I : List α → World → Prop) (xs : List α) (W : World) : Exit → Act → World → Prop
  | .normal, _, W' => KeepsOthers W W' ∧ (∀ k, K k → W'.heap[k]? = W.heap[k]?) ∧ I xs W'
  | _, _, _ => False
theorem Mine.put {b B l : Nat} {I : List α → World → Prop} (h : Mine b B I) {xs : List α} {W : World} {o : Obj} (o' : Obj) (hi : I xs W) (hB : B ≤ l) (hl : W.heap[l]? = some o) (ho : o.isCells = false) : I xs (W.putObj l o') :=
  h xs W _ (some l) hi (grownBy_putObj' W l o') (fun r e => by cases e; exact .inr ⟨hB, o, hl, ho⟩)
theorem Mine.new {b B : Nat} {I : List α → World → Prop} (h : Mine b B I) {xs : List α} {W : World} (o : Obj) (hi : I xs W) : I xs (W.alloc o) :=
  h xs W _ none hi (World.grownBy_alloc W o none) (fun r e => by cases e)
theorem kept_of {W W' : World} {row : Option Nat} {b k : Nat} (g : W.grownBy W' row) (hr : row = none ∨ row = some b) (hk : k < W.heap.size) (hb : k ≠ b) : W'.heap[k]? = W.heap[k]? :=
  g.block k hk (fun e => by rcases hr with h | h <;> rw [h] at e <;> cases e; exact hb rfl)
theorem lt_of {W : World} {k : Nat} {o : Obj} (h : W.heap[k]? = some o) : k < W.heap.size := (Array.getElem?_eq_some_iff.1 h).1

theorem range_hands {g : Operand} {ps : Array Tmp} {assign body : Code} {Q : Exit → Act → World → Prop} {a : Act} {w : World}
    (hro : F.round = none) (h1 : 1 ≤ n) {gf : Nat} {lb : Array Value} (hg : a.eval g = .func (.func gf) #[] lb) (hFg : F.fn gf) (eg : ∀ args w, (callFunc gf args).run P w = .ok (.enter gf args) w)
    {encs : α → Array Value} {b : Nat} {K : Nat → Prop} {S : List α → Prop} {N : Nat} (hb : K b) (hK : ∀ k, K k → k < w.heap.size) (hseq : Hands F (n - 1) P gf lb encs b K S N w) (hps : ∀ x, (encs x).size = ps.size)
    (I : List α → World → Prop) (hI : Mine b w.heap.size I) (h0 : I [] w) (a₁ : α → Act)
    (hassign : ∀ (l : Nat) (x : α) (W : World) (K : Act → World → Prop), K (a₁ x) W →
      assign.wpIn (F.inRound l) (n - 1 - 1) P (Exit.then K (fun _ _ _ => False)) { tmps := (ps.zip (encs x)).foldl (fun t (p, v) => t.setIfInBounds p v) a.tmps, defers := [] } W)
    (hbody : ∀ (l : Nat) (pre : List α) (x : α) (W : World), I pre W → pre.length < N → w.heap.size ≤ W.heap.size → body.wpIn (F.inRound l) (n - 1 - 1) P (Round K I (pre ++ [x]) W) (a₁ x) W)
    (hdone : ∀ (D : Nat) (xs : List α) (W : World), w.heap.size ≤ D → S xs → I xs W → W.heap[D]? = some (.deferred (some [])) → Q .normal { a with defers := { target := .collected D, args := #[] } :: a.defers } W) :
    (Code.rangeFunc g ps assign body).wpIn F n P Q a w := by
  refine wpIn_rangeFunc fun fn hfn => ?_
  rw [hro]
  have hbz := hK b hb
  generalize hD : w.heap.size = D at hI hdone hbody
  have recE : ∃ rec : LoopState → Option Code → Loop, rec = fun st pe => { state := st, pending := pe, fn, tmps := a.tmps, params := ps, assign, body, defers := D } := ⟨_, rfl⟩
  obtain ⟨rec, hrec⟩ := recE
  obtain ⟨V, hV⟩ : ∃ V, V = (w.alloc (.deferred (some []))).alloc (.loop (rec .ready none)) := ⟨_, rfl⟩
  have vD : V.heap[D]? = some (.deferred (some [])) := by
    rw [hV, ← hD]; exact (Below.heap_alloc _ _ _ (by simp)).trans (World.alloc_heap_new w _)
  have vL : V.heap[D + 1]? = some (.loop (rec .ready none)) := by
    have h := World.alloc_heap_new (w.alloc (.deferred (some []))) (.loop (rec .ready none))
    rw [World.size_alloc, hD] at h
    rw [hV]; exact h
  have vI : I [] V := by rw [hV]; exact hI.new _ (hI.new _ h0)
  have vb : ∀ k, K k → V.heap[k]? = w.heap[k]? := fun k hk => by
    have hkz := hK k hk
    rw [hV]; exact (Below.heap_alloc _ _ _ (by simp; omega)).trans (Below.heap_alloc _ _ _ hkz)
  have vz : w.heap.size ≤ V.heap.size := by rw [hV]; simp; omega
  refine ⟨D + 1, [{ target := .collected D, args := #[] }], V, { target := .fn (.func gf) lb, args := #[.func (.yield (D + 1)) #[] #[]] }, V, gf, #[.func (.yield (D + 1)) #[] #[]] ++ lb, V, ?_, ?_, ?_, ?_, fun _ => h1, ?_⟩
  · rw [hV, hrec, ← hD]; exact run_enterLoop_outer _ _ _ _ _
  · simp only [resolve, hg]
    simp [go_sem]
  · intro f' hf'
    simp [Target.leads] at hf'
    subst hf'
    exact hFg
  · simp [invoke, go_sem, eg]
  have hbD : b < D := by omega
  refine (hseq (D + 1) (fun xs W => (I xs W ∧ w.heap.size ≤ W.heap.size) ∧ W.heap[D + 1]? = some (.loop (rec .ready none)) ∧ W.heap[D]? = some (.deferred (some []))) V vb vz ?_ ?_ ⟨⟨vI, vz⟩, vL, vD⟩).mono ?_
  · rintro xs A B row ⟨⟨hi, hz⟩, hl, hd⟩ gr hr
    refine ⟨⟨hI xs A B row hi gr (fun r e => ?_), Nat.le_trans hz gr.size⟩, ?_, ?_⟩
    · rcases hr with h | h <;> rw [h] at e <;> cases e
      exact .inl rfl
    · rw [kept_of gr hr (lt_of hl) (by omega)]; exact hl
    · rw [kept_of gr hr (lt_of hd) (by omega)]; exact hd
  · rintro pre x W ⟨⟨hi, hz⟩, hl, hd⟩ hlen
    have hlt := lt_of hl
    have hy := run_yield (P := P) (args := encs x) hl (by rw [hrec]; exact hps x)
    rw [hrec] at hy
    refine ⟨fn, _, assign, body, hy, roundIn_of_wpIn hfn (hassign _ x W _ ⟨_, run_beginRound hl (by rw [hrec]), ?_⟩)⟩
    have b1 : (W.putObj (D + 1) (.loop { rec .ready none with state := .busy })).heap[D + 1]? = some (.loop { rec .ready none with state := .busy }) := World.putObj_heap_same hlt
    have b2 : (W.putObj (D + 1) (.loop { rec .ready none with state := .busy })).heap[D]? = some (.deferred (some [])) := (World.putObj_heap_other (by omega)).trans hd
    have b3 : ∀ k, K k → (W.putObj (D + 1) (.loop { rec .ready none with state := .busy })).heap[k]? = W.heap[k]? := fun k hk => World.putObj_heap_other (by have := hK k hk; omega)
    have b4 : (W.putObj (D + 1) (.loop { rec .ready none with state := .busy })).heap.size = W.heap.size := by simp
    refine wpIn_mono (hbody _ pre x _ (hI.put _ hi (by omega) hl rfl) hlen (by rw [b4]; omega)) ?_
    rintro e a3 U hp
    cases e with
    | normal =>
      obtain ⟨hk, hub, hiu⟩ := hp
      have u1 := hk.same _ _ b1 rfl
      have u2 := hk.same _ _ b2 rfl
      have hend := run_endRound (P := P) none u1
      rw [hrec] at hend
      have hzU := hk.size
      rw [b4] at hzU
      refine ⟨_, _, hend, rfl, ⟨⟨hI.put _ hiu (by omega) u1 rfl, by simp; omega⟩, ?_, (World.putObj_heap_other (by omega)).trans u2⟩, fun k hk => (World.putObj_heap_other (by have := hK k hk; omega)).trans ((hub k hk).trans (b3 k hk)), by simp; omega⟩
      have := World.putObj_heap_same (o := .loop (rec .ready none)) (lt_of u1)
      rw [hrec] at this ⊢
      exact this
    | _ => exact hp.elim
  · rintro e U ⟨⟨v, rfl⟩, xs, hS, ⟨hi, hz⟩, hl, hd⟩
    have hend := run_endLoop (P := P) hl (by rw [hrec]; simp)
    rw [hrec] at hend
    exact ⟨none, _, hend, hdone D xs _ (by omega) hS (hI.put _ hi (by omega) hl rfl) ((World.putObj_heap_other (by omega)).trans hd)⟩
end
end Go.Proofs.YtoehdmbogdpncaaGreatDoor.Range
end

section
namespace Go.Proofs.YtoehdmbogdpncaaGreatDoor.WordR
open Go.RowKit Go.Shelf Mem WordP WordW WordS WordC Range
attribute [local go_sem] Oper.semAt_some

theorem grown_of_below {w w' : World} (h : Below w.heap.size w w') (row : Option Nat) : w.grownBy w' row := ⟨h.os, h.tape, h.output, h.size, fun k hk _ => h.block k hk⟩
theorem box_same {W W' : World} {B : Nat} {t : TypeId} {v : Value} (h : Boxed W B t v) (e : W'.heap[B]? = W.heap[B]?) : Boxed W' B t v := e.trans h
def boxLen (b : Nat) (W : World) : Nat := match W.cell? ⟨b, 0, none⟩ with | some (.string s) => s.size | _ => 0
theorem boxLen_of {b : Nat} {W : World} {t : TypeId} {s : ByteArray} (h : Boxed W b t (.string s)) : boxLen b W = s.size := by unfold boxLen; rw [h.cell]

set_option maxHeartbeats 2000000 in
theorem iter_hands (b c : Nat) (hbc : b ≠ c) (s : ByteArray) (u : UInt8) (w : World) (hs : s.size ≤ 4611686018427387904) (n : Nat) (hn : 1 ≤ n) (hb : Boxed w b 9 (.string s)) (hc : Boxed w c 5 (.int .u8 u.toNat)) :
    Hands Fence.wide n Tryz.prog 113 #[.pointer (some ⟨b, 0, none⟩), .pointer (some ⟨c, 0, none⟩)] (fun x : ByteArray => #[Value.string x]) b (fun k => k = b ∨ k = c) (fun xs => xs = (split u s.data.toList).map str) (s.size + 1) w := by
  intro l J W hW hz hJ hY h0
  have hbW : Boxed W b 9 (.string s) := box_same hb (hW b (.inl rfl))
  have hcW : Boxed W c 5 (.int .u8 u.toNat) := box_same hc (hW c (.inr rfl))
  refine callsIn_of_wp Tryz.func113 rfl trivial ?_ rfl
  simp only [Tryz.ntmps113, List.size_toArray, List.length_cons, List.length_nil, Nat.reduceAdd, Nat.reduceSub, Array.replicate_succ, Array.replicate_zero, List.push_toArray, List.append_toArray, List.nil_append, List.cons_append]
  gi_wp2
  gi_loopw [4] (fun _ wr => ∃ (pre : List ByteArray) (cur : ByteArray), Boxed wr b 9 (.string cur) ∧ Boxed wr c 5 (.int .u8 u.toNat) ∧ pre.length + cur.size ≤ s.size ∧ (split u s.data.toList).map str = pre ++ (split u cur.data.toList).map str ∧ J pre wr) (fun _ wr => boxLen b wr)
  case atStart => exact ⟨[], s, hbW, hcW, by simp, rfl, h0⟩
  case round =>
    clear hbW hcW hb hc hW hz h0
    obtain ⟨pre, cur, hb, hc, hlen, hsp, hj⟩ := hrel
    have cb := hb.cell
    have cc := hc.cell
    have CUT := fun w' => cut_any cur u w' (by omega)
    have hSP := Lib.hid hsp
    clear hsp
    rcases first_at u cur.data.toList with h | ⟨a, r, hl, h⟩
    · rw [cut_none h] at CUT
      have hst : str cur.data.toList = cur := mkB cur
      have hfin : (split u s.data.toList).map str = pre ++ [str cur.data.toList] := by rw [hSP.out, split_none u _ h]; rfl
      have HF := Lib.hid hfin
      have CUT := Lib.hid CUT
      clear h hfin hst
      gi_wp2
      refine ⟨trivial, ?_⟩
      refine (callsIn_wide.2 (CUT.out _)).mono ?_
      rintro e w2 ⟨rfl, hb2⟩
      have g2 := grown_of_below hb2 none
      have hb' := hb.kept g2 (by simp)
      have hc' := hc.kept g2 (by simp)
      have hj' := hJ _ _ _ none hj g2 (.inl rfl)
      obtain ⟨fn, tmps, assign, body, hy, hR⟩ := hY pre (str cur.data.toList) w2 hj' (by omega)
      clear hb2 g2 cb cc hb hc hj
      gi_wp2
      refine hR.mono ?_
      rintro e W3 ⟨rfl, hj3, hk3, hz3⟩
      gi_wp2
      refine bodyPost_ret (results_none rfl _ _ _) rfl ?_
      exact ⟨⟨_, rfl⟩, pre ++ [str cur.data.toList], HF.out.symm, hj3⟩
    · have hcut : cut u cur.data.toList = (a, r, true) := by rw [hl]; exact cut_at h
      have hz : a.length + 1 + r.length = cur.size := by
        have : cur.data.toList.length = cur.size := by simp
        rw [hl] at this; simp at this; omega
      rw [hcut] at CUT
      have hnext : (split u s.data.toList).map str = (pre ++ [str a]) ++ (split u (str r).data.toList).map str := by
        rw [hSP.out, hl, split_app u a r h]; simp [str]
      have HF := Lib.hid hnext
      have CUT := Lib.hid CUT
      clear h hnext hl hcut
      gi_wp2
      refine ⟨trivial, ?_⟩
      refine (callsIn_wide.2 (CUT.out _)).mono ?_
      rintro e w2 ⟨rfl, hb2⟩
      have g2 := grown_of_below hb2 none
      have hb' := hb.kept g2 (by simp)
      have hc' := hc.kept g2 (by simp)
      have hj' := hJ _ _ _ none hj g2 (.inl rfl)
      obtain ⟨fn, tmps, assign, body, hy, hR⟩ := hY pre (str a) w2 hj' (by omega)
      have hbl := boxLen_of hb
      clear hb2 g2 cb cc hb hc hj
      gi_wp2
      refine hR.mono ?_
      rintro e W3 ⟨rfl, hj3, hk3, hz3⟩
      have hb3 := box_same hb' (hk3 b (.inl rfl))
      have hc3 := box_same hc' (hk3 c (.inr rfl))
      have cb := hb3.cell
      have fb := hb3.frozen
      gi_wp2
      go_roundw
      case rel => exact ⟨pre ++ [str a], str r, hb3.set _, hc3.other (Ne.symm hbc) _, by rw [str_size]; simp; omega, HF.out, hJ _ _ _ (some b) hj3 (grownBy_setCell' _ _ _) (.inr rfl)⟩
      case measure => rw [boxLen_of (hb3.set _), hbl, str_size]; omega

set_option maxHeartbeats 1000000 in
theorem made_any (s : ByteArray) (u : UInt8) (w : World) :
    Calls Tryz.prog 99 #[.string s, .int .u8 u.toNat] w (fun e w' => e = .returned (.func (.func 113) #[] #[.pointer (some ⟨w.heap.size, 0, none⟩), .pointer (some ⟨w.heap.size + 1, 0, none⟩)]) ∧ w' = (w.alloc (.cells #[.string s] 9)).alloc (.cells #[.int .u8 u.toNat] 5)) := by
  go_enter Tryz.func99, Tryz.ntmps99
  go_wp2_with fail
  go_ret
  exact ⟨by simp, rfl⟩
theorem own_lower {w : World} {a b : Nat} {e : TypeId} {size n : Nat} {v : Value} {xs : List Value} (h : w.ownsRow b e size v n xs) (hab : a ≤ b) : w.ownsRow a e size v n xs := by
  refine ⟨h.1, ?_⟩
  rcases h.2 with h | ⟨g, cap, cur, e1, e2, e3⟩
  · exact .inl h
  · exact .inr ⟨g, cap, cur, e1, by omega, e3⟩
theorem own_far {w : World} {b k : Nat} {e : TypeId} {size n : Nat} {v : Value} {xs : List Value} (h : w.ownsRow b e size v n xs) (hk : k < b) : v.ownBlock ≠ some k := by
  rcases h.2 with ⟨rfl, _⟩ | ⟨g, cap, cur, rfl, e2, e3⟩
  · simp [Value.ownBlock]
  · simp [Value.ownBlock]; omega
theorem info_str : (Tryz.prog.info? 9).map (fun i => (i.zero, i.size, i.bytes)) = some (some (.string ⟨#[]⟩), 1, 16) := by kernel_rfl
set_option maxRecDepth 100000 in
set_option maxHeartbeats 2000000 in
theorem parts_any (s : ByteArray) (u : UInt8) (w : World) (hs : s.size ≤ 4398046511104) :
    Calls Tryz.prog 85 #[.string s, .int .u8 u.toNat] w (GivesRow w.heap.size 9 (split u s.data.toList).length (((split u s.data.toList).map str).map Value.string) w) := by
  refine (callsIn_wide (n := 3)).1 ?_
  obtain ⟨i0, hi, hz0, hz1, hz2⟩ := info_parts info_str
  refine callsIn_of_wp_marks Tryz.func85 rfl trivial ?_ rfl
  simp only [Tryz.ntmps85, List.size_toArray, List.length_cons, List.length_nil, Nat.reduceAdd, Nat.reduceSub, Array.replicate_succ, Array.replicate_zero, List.push_toArray, List.append_toArray, List.nil_append, List.cons_append]
  gi_wp2
  refine ⟨trivial, ?_⟩
  refine (callsIn_wide.2 (made_any s u _)).mono ?_
  rintro e w' ⟨rfl, rfl⟩
  have bO := Boxed.new w 94 (.slice none 0 0)
  have bS := Boxed.new (w.alloc (.cells #[.slice none 0 0] 94)) 9 (.string s)
  have bU := Boxed.new ((w.alloc (.cells #[.slice none 0 0] 94)).alloc (.cells #[.string s] 9)) 5 (.int .u8 u.toNat)
  have bO := (bO.alloc (.cells #[.string s] 9)).alloc (.cells #[.int .u8 u.toNat] 5)
  have bS := bS.alloc (.cells #[.int .u8 u.toNat] 5)
  rw [World.size_alloc] at bS bU
  rw [World.size_alloc] at bU
  have hB0 : Below w.heap.size w (((w.alloc (.cells #[.slice none 0 0] 94)).alloc (.cells #[.string s] 9)).alloc (.cells #[.int .u8 u.toNat] 5)) := (((Below.refl _ w).alloc (Nat.le_refl _) _).alloc (by simp) _).alloc (by simp; omega) _
  have hz : (((w.alloc (.cells #[.slice none 0 0] 94)).alloc (.cells #[.string s] 9)).alloc (.cells #[.int .u8 u.toNat] 5)).heap.size = w.heap.size + 3 := by simp
  generalize (((w.alloc (.cells #[.slice none 0 0] 94)).alloc (.cells #[.string s] 9)).alloc (.cells #[.int .u8 u.toNat] 5)) = W0 at bO bS bU hB0 hz ⊢
  gi_wp2
  refine range_hands rfl (by omega) (gf := 113) (lb := #[.pointer (some ⟨w.heap.size + 1, 0, none⟩), .pointer (some ⟨w.heap.size + 1 + 1, 0, none⟩)]) rfl trivial (enters_of Tryz.func113 (by kernel_rfl) rfl)
    (K := fun k => k = w.heap.size + 1 ∨ k = w.heap.size + 1 + 1) (.inl rfl) (fun k hk => by rcases hk with h | h <;> omega)
    (iter_hands (w.heap.size + 1) (w.heap.size + 1 + 1) (by omega) s u W0 (by omega) _ (by omega) bS bU) (fun _ => rfl)
    (fun pre W => (∃ v, Boxed W w.heap.size 94 v ∧ W.ownsRow (w.heap.size + 3) 9 1 v pre.length (pre.map Value.string)) ∧ Below w.heap.size w W) ?hI ?h0
    (fun x => { tmps := #[.string s, .int .u8 u.toNat, undef, undef, .slice none 0 0, .pointer (some ⟨w.heap.size, 0, none⟩), .string x, .string s, .int .u8 u.toNat, .func (.func 113) #[] #[.pointer (some ⟨w.heap.size + 1, 0, none⟩), .pointer (some ⟨w.heap.size + 1 + 1, 0, none⟩)], .string x, undef, undef, undef, undef, undef], defers := [] }) ?assign ?body ?done
  case hI =>
    rintro xs W W' row ⟨⟨v, hv, hr⟩, hB⟩ hg hrow
    refine ⟨⟨v, hv.kept hg (fun e => ?_), hr.kept hg ?_⟩, hB.grown hg hB.size (fun j e => ?_)⟩
    · rcases hrow _ e.symm with h | ⟨h, _⟩ <;> omega
    · cases row with
      | none =>
        by_cases h : v.ownBlock = none
        · exact .inl h
        · exact .inr h
      | some r =>
        refine .inr (fun e => ?_)
        rcases hrow r rfl with h | ⟨h, o, ho, hc⟩
        · exact own_far hr (by omega) e
        · rcases hr.2 with ⟨rfl, _⟩ | ⟨g, cap, cur, rfl, e2, e3, _⟩
          · simp [Value.ownBlock] at e
          · obtain rfl : g = r := by simpa [Value.ownBlock] using e
            rw [e3] at ho; cases ho; cases hc
    · rcases hrow j e with h | ⟨h, _⟩ <;> omega
  case h0 => exact ⟨⟨_, bO, World.ownsRow_nil _ _ _ _⟩, hB0⟩
  case assign =>
    intro l x W K hK
    gi_wp2
    exact hK
  case body =>
    rintro l pre x W ⟨⟨v, hv, hrow⟩, hB⟩ hlt hsz
    have hc := hv.cell
    have hw := hB.size
    have hml : pre.length + 1 ≤ maxLen := by unfold maxLen; omega
    have hbd : (pre.length + 1) * 16 ≤ 140737488355328 := by omega
    gi_wp2_with (gi_at_builtin; refine wpListIn_append_own _ rfl _ _ 94 rfl (w.heap.size + 3) 9 i0 (.string ⟨#[]⟩) 1 16 Tryz.underlying94 hi hz0 hz1 hz2 rfl (by decide) _ _ _ rfl (hrow.alloc _) ⟨W.heap.size, 0, none⟩ 1 1 [.string x] rfl rfl (cell_one_new _ _ _) (by simp [Value.oneCell']) hml hbd (by simp; omega) ?_; intro v' w1 hown' hgrow _; obtain ⟨g', cap', rfl⟩ := ownsRow_succ hown'; obtain ⟨hv1, hv2, hr2, hk2, hb2⟩ := hv.appended (by decide) (own_lower (a := w.heap.size) hrow (by omega)) hB.size (Nat.le_refl _) (own_lower hown' (by omega)) hgrow; have hc1 := hv1.cell; have hf1 := hv1.frozen)
    refine ⟨hk2, fun k hk => ?_, ⟨_, hv2, by simpa using hown'.kept (grownBy_setCell' w1 _ _) (.inr (hv1.not_row (by decide) hown').symm)⟩, hB.trans hb2⟩
    have hkB : k ≠ w.heap.size := by rcases hk with h | h <;> omega
    have hk3 : k < w.heap.size + 3 := by rcases hk with h | h <;> omega
    exact (Below.heap_setCell _ _ _ k hkB).trans ((hgrow.block k (by simp; omega) (Ne.symm (own_far hrow hk3))).trans (Below.heap_alloc _ _ _ (by omega)))
  case done =>
    rintro D ys W hD hys ⟨⟨v, hv, hrow⟩, hB⟩ hK
    have hc := hv.cell
    gi_wp2
    refine ⟨by simp, .inl ⟨_, _, rfl, run_takeDeferred hK, ?_⟩⟩
    refine ⟨_, results_tmp rfl _ _ _, v, rfl, ?_, hB.trans (belowK_b (w := w) (Nat.le_refl _) W D _ _ (by omega) hK rfl rfl)⟩
    have hr := ownsRow_putObj (own_lower (a := w.heap.size) hrow (by omega)) (.deferred none) hK rfl
    rw [hys] at hr
    simpa using hr
end Go.Proofs.YtoehdmbogdpncaaGreatDoor.WordR
end

section
namespace Go.Proofs.YtoehdmbogdpncaaGreatDoor.WordJ
open Go.RowKit Mem WordP OneB WordW WordS WordC

def strs (L : List ByteArray) : List Value := L.map Value.string
theorem str_cat (a b : List UInt8) : str a ++ str b = str (a ++ b) := by
  apply ByteArray.ext; simp [str, ByteArray.data_append]
end Go.Proofs.YtoehdmbogdpncaaGreatDoor.WordJ
end
