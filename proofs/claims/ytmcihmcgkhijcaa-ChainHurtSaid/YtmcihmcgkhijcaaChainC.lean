/- The walks of chain.back, its closure, and Collide. -/
import Derived.Test.YtmcihmcgkhijcaaChainR
import Derived.Deep.RegionHeld3
import Derived.OneCell
namespace Go.Proofs.Ytmcihmcgkhijcaa.ChainC
open Go.RowKit ChainW ChainH ChainR

def Blk (w : World) (g : Nat) (t : TypeId) (v : Value) : Prop := w.heap[g]? = some (.cells #[v] t (0, 0))
theorem Blk.cell {w : World} {g : Nat} {t : TypeId} {v : Value} (h : Blk w g t v) : w.cell? ⟨g, 0, none⟩ = some v := cell_of_one h
theorem Blk.free {w : World} {g : Nat} {t : TypeId} {v : Value} (h : Blk w g t v) : w.frozen? ⟨g, 0, none⟩ = false := free_of_one h
theorem Blk.lt {w : World} {g : Nat} {t : TypeId} {v : Value} (h : Blk w g t v) : g < w.heap.size := by
  rcases Nat.lt_or_ge g w.heap.size with hlt | hge
  · exact hlt
  · unfold Blk at h; rw [Array.getElem?_eq_none hge] at h; cases h
theorem Blk.ne {w : World} {g g' : Nat} {t t' : TypeId} {v v' : Value} (h : Blk w g t v) (h' : Blk w g' t' v') (hne : t ≠ t') : g ≠ g' := by
  rintro rfl
  unfold Blk at h h'
  rw [h] at h'
  injection h' with h'
  injection h' with _ ht
  exact hne ht
theorem Blk.grown {w w' : World} {g : Nat} {t : TypeId} {v : Value} {row : Option Nat} (h : Blk w g t v) (hb : w.grownBy w' row) (hg : some g ≠ row) : Blk w' g t v := (hb.block g h.lt hg).trans h
theorem Blk.below {w w' : World} {g : Nat} {t : TypeId} {v : Value} (h : Blk w g t v) (hb : Below w.heap.size w w') : Blk w' g t v := (hb.block g h.lt).trans h
theorem Blk.set {w : World} {g : Nat} {t : TypeId} {v : Value} (h : Blk w g t v) (u : Value) : Blk (w.setCell ⟨g, 0, none⟩ u) g t u := one_setCell h

/-- What a closure of back keeps: where it is (k texts are ahead of it). -/
structure Cl (w : World) (B : Nat) (A : Option Addr) (c : Nat) (L : List ByteArray) (k gn gh gb : Nat) (hv : Value) : Prop where
  n : Blk w gn 3 (.int .i64 k)
  h : Blk w gh 44 hv
  l : Blk w gb 27 (.slice A L.length c)
  own : w.ownsRow B 26 1 hv (L.length + 1) (headsL L L.length)

theorem Cl.grown {w w' : World} {B : Nat} {A : Option Addr} {c : Nat} {L : List ByteArray} {k gn gh gb : Nat} {hv : Value} (h : Cl w B A c L k gn gh gb hv) {row : Option Nat} (hg : w.grownBy w' row)
    (h1 : some gn ≠ row) (h2 : some gh ≠ row) (h3 : some gb ≠ row) (h4 : hv.ownBlock = none ∨ hv.ownBlock ≠ row) : Cl w' B A c L k gn gh gb hv :=
  ⟨h.n.grown hg h1, h.h.grown hg h2, h.l.grown hg h3, h.own.kept hg h4⟩

theorem grown_set (w : World) (g : Nat) (u : Value) : w.grownBy (w.setCell ⟨g, 0, none⟩ u) (some g) :=
  ⟨rfl, rfl, rfl, by simp [World.setCell], fun i _ hne => Below.heap_setCell w ⟨g, 0, none⟩ u i (fun e => hne (by rw [e]))⟩
theorem grown_below {a w w' : World} {row : Option Nat} (h : a.grownBy w row) (hb : Below w.heap.size w w') : a.grownBy w' row :=
  ⟨hb.os.trans h.os, hb.tape.trans h.tape, hb.output.trans h.output, Nat.le_trans h.size hb.size, fun i hi hn => (hb.block i (Nat.lt_of_lt_of_le hi h.size)).trans (h.block i hi hn)⟩
theorem ne_blk {b b' : Nat} (h : b ≠ b') : (⟨b, 0, none⟩ : Addr) ≠ ⟨b', 0, none⟩ := fun e => h (by injection e)
theorem below_steps {B : Nat} {w w' : World} (h : Below B w w') : Below B w w' := h
def CPost (v : Value) (gn : Nat) (w : World) (e : Ending) (w' : World) : Prop := e = .returned v ∧ w.grownBy w' (some gn)

set_option maxHeartbeats 1000000 in
theorem clo_zero (w : World) (B : Nat) (A : Option Addr) (c : Nat) (L : List ByteArray) (gn gh gb : Nat) (hv : Value) (h : Cl w B A c L 0 gn gh gb hv) :
    Calls Try.prog 80 #[.pointer (some ⟨gn, 0, none⟩), .pointer (some ⟨gh, 0, none⟩), .pointer (some ⟨gb, 0, none⟩)] w (fun e w' => e = .returned (.string ⟨#[]⟩) ∧ w = w') := by
  have hn := h.n.cell
  go_enter Try.func80, Try.ntmps80
  go_wp2_with fail
  go_ret
  exact ⟨rfl, rfl⟩

set_option maxHeartbeats 1000000 in
theorem clo_succ (w : World) (B : Nat) (A : Option Addr) (c : Nat) (L : List ByteArray) (k gn gh gb : Nat) (hv : Value) (h : Cl w B A c L (k + 1) gn gh gb hv) (hk : k < L.length)
    (hL : Strs w w.heap.size A L) (hA : ∀ a, A = some a → a.block ≠ gn) (hn : L.length ≤ 8796093022208) (hz : ∀ s ∈ L, s.size ≤ 140737488351232) :
    Calls Try.prog 80 #[.pointer (some ⟨gn, 0, none⟩), .pointer (some ⟨gh, 0, none⟩), .pointer (some ⟨gb, 0, none⟩)] w
      (fun e w' => CPost (.string ⟨(link (head (L.take k)) L[k].data.toList).toArray⟩) gn w e w' ∧ Blk w' gn 3 (.int .i64 k)) := by
  obtain ⟨b, o, rfl, hbB, hcs⟩ := hL (by omega)
  have hcS := hcs k hk
  obtain ⟨g, cap, rfl⟩ := ownsRow_succ h.own
  have hcH : w.cell? ⟨g, k, none⟩ = some (.int .u64 (head (L.take k) : Int)) := by rw [h.own.cellAt k (by omega)]; exact headsL_at L L.length k (by omega)
  have hbn : b ≠ gn := hA _ rfl
  have hsz := hz L[k] (List.getElem_mem hk)
  have hh := head_lt (L.take k)
  have c1 := h.n.cell
  have c1f := h.n.free
  have c2 := h.h.cell
  have c3 := h.l.cell
  have n1 := h.n.ne h.h (by decide)
  have n2 := h.n.ne h.l (by decide)
  go_enter Try.func80, Try.ntmps80
  go_wp2_with fail
  have hgn : g ≠ gn := by
    rintro rfl
    rcases h.own.2 with ⟨e, _⟩ | ⟨g', cap', cur, e, _, hh', _⟩
    · cases e
    · cases e
      have := h.n
      unfold Blk at this
      rw [this] at hh'
      injection hh' with hh'
      injection hh' with _ ht
      exact absurd ht (by decide)
  have hgl := (h.own.lt g rfl).2
  have l1 := h.n.lt
  have l2 := h.h.lt
  have l3 := h.l.lt
  have s1 : (w.setCell ⟨gn, 0, none⟩ (.int .i64 k)).cell? ⟨gn, 0, none⟩ = some (.int .i64 k) := (h.n.set (.int .i64 k)).cell
  have s2 : (w.setCell ⟨gn, 0, none⟩ (.int .i64 k)).cell? ⟨gh, 0, none⟩ = some (.slice (some ⟨g, 0, none⟩) (L.length + 1) cap) := by rw [World.cell?_setCell_other _ _ _ _ (fun e => n1 (by injection e with e))]; exact c2
  have s3 : (w.setCell ⟨gn, 0, none⟩ (.int .i64 k)).cell? ⟨gb, 0, none⟩ = some (.slice (some ⟨b, o, none⟩) L.length c) := by rw [World.cell?_setCell_other _ _ _ _ (fun e => n2 (by injection e with e))]; exact c3
  have s4 : (w.setCell ⟨gn, 0, none⟩ (.int .i64 k)).cell? ⟨g, k, none⟩ = some (.int .u64 (head (L.take k) : Int)) := by rw [World.cell?_setCell_other _ _ _ _ (fun e => hgn (by injection e with e; exact e.symm))]; exact hcH
  have s5 : (w.setCell ⟨gn, 0, none⟩ (.int .i64 k)).cell? ⟨b, o + k, none⟩ = some (.string L[k]) := by rw [World.cell?_setCell_other _ _ _ _ (fun e => hbn (by injection e with e; exact e.symm))]; exact hcS
  generalize hs0 : L[k] = s at s5 hsz ⊢
  generalize hh0 : head (L.take k) = h0 at s4 hh ⊢
  have HS0 := Lib.hid hs0; have HH0 := Lib.hid hh0; clear hs0 hh0
  have B1 := h.n.set (.int .i64 k)
  have G1 : w.grownBy (w.setCell ⟨gn, 0, none⟩ (.int .i64 k)) (some gn) := grown_set w gn _
  have z1 : (w.setCell ⟨gn, 0, none⟩ (.int .i64 k)).heap.size = w.heap.size := by simp [World.setCell]
  have hw1 : (0 : Int) ≤ (k : Int) := by omega
  have hw2 : (k : Int) < (L.length : Int) := by omega
  have hw3 : (k : Int) < (L.length : Int) + 1 := by omega
  clear c1 c1f c2 c3 hcS hcH hL hz hcs
  generalize w.setCell ⟨gn, 0, none⟩ (.int .i64 k) = W at s1 s2 s3 s4 s5 B1 G1 z1 ⊢
  refine Seq.region_seq (S := fun w' => Below W.heap.size W w') [(0, false), (1, false), (2, false), (3, false), (4, false), (5, false), (6, false), (7, false), (8, true), (9, false)]
    (by kernel_rfl) (by kernel_rfl) (fun _ _ d _ _ h => by cases d <;> exact h) (Below.refl _ _).drew ?_
  simp only [Seq.lay, List.getElem?_cons_zero, List.getElem?_cons_succ]
  repeat (first
    | (refine Seq.seq_read (v := ?_) (by rfl) ?_ ?_
       rotate_left
       · (intro w' hS
          have d1 := (hS.cell (p := ⟨gn, 0, none⟩) (by show gn < _; omega)).trans s1
          have d2 := (hS.cell (p := ⟨gh, 0, none⟩) (by show gh < _; omega)).trans s2
          have d3 := (hS.cell (p := ⟨gb, 0, none⟩) (by show gb < _; omega)).trans s3
          have d4 := (hS.cell (p := ⟨g, k, none⟩) (by show g < _; omega)).trans s4
          have d5 := (hS.cell (p := ⟨b, o + k, none⟩) (by show b < _; omega)).trans s5
          go_simp; with_reducible rfl)
       simp only [Act.put, List.setIfInBounds_toArray, List.set_cons_zero, List.set_cons_succ]))
  refine Seq.seq_do (by rfl) (fun K hK => ?_)
  go_simp
  refine (link_any h0 s _ hh (by omega)).mono ?_
  rintro e w1 ⟨rfl, hb1⟩
  have hB1 : Below W.heap.size W w1 := (Below.refl _ _).drew.trans hb1
  refine hK _ _ hB1 ?_
  clear hK K
  refine Seq.seq_read (v := ?_) (by rfl) ?_ ?_
  rotate_left
  · intro w' _; go_simp; with_reducible rfl
  simp only [Act.put, List.setIfInBounds_toArray, List.set_cons_zero, List.set_cons_succ]
  refine Seq.seq_nil ?_
  clear s1 s2 s3 s4 s5
  go_wp2_with fail
  go_ret
  have e1 := HS0.out
  have e2 := HH0.out
  subst e1 e2
  exact ⟨⟨rfl, grown_below G1 hB1⟩, B1.below hB1⟩

theorem Blk.new (w : World) (t : TypeId) (v : Value) (g : Nat) (h : g = w.heap.size) : Blk (w.alloc (.cells #[v] t)) g t v := by
  subst h
  show (w.heap.push (Obj.cells #[v] t))[w.heap.size]? = _
  simp
theorem Blk.alloc {w : World} {g : Nat} {t : TypeId} {v : Value} (h : Blk w g t v) (o : Obj) : Blk (w.alloc o) g t v := (Below.heap_alloc w o g h.lt).trans h
theorem Blk.drew {w : World} {g : Nat} {t : TypeId} {v : Value} (h : Blk w g t v) : Blk w.drew g t v := h
theorem Blk.setO {w : World} {g g' : Nat} {t : TypeId} {v : Value} (h : Blk w g t v) (hne : g ≠ g') (u : Value) : Blk (w.setCell ⟨g', 0, none⟩ u) g t v := (Below.heap_setCell w ⟨g', 0, none⟩ u g hne).trans h
theorem own_set {w : World} {B : Nat} {e : TypeId} {s n : Nat} {b c : Nat} {o : Nat} {xs : List Value} (h : w.ownsRow B e s (.slice (some ⟨b, o, none⟩) n c) n xs) (g : Nat) (hne : g ≠ b) (u : Value) :
    (w.setCell ⟨g, 0, none⟩ u).ownsRow B e s (.slice (some ⟨b, o, none⟩) n c) n xs :=
  h.kept (grown_set w g u) (.inr (by simp [Value.ownBlock]; omega))
theorem own_base {w : World} {B B' : Nat} {e : TypeId} {s n : Nat} {v : Value} {xs : List Value} (h : w.ownsRow B e s v n xs) (hB : B' ≤ B) : w.ownsRow B' e s v n xs := by
  refine ⟨h.1, ?_⟩
  rcases h.2 with ⟨a, b⟩ | ⟨g, cap, cur, e1, e2, e3, e4⟩
  · exact .inl ⟨a, b⟩
  · exact .inr ⟨g, cap, cur, e1, Nat.le_trans hB e2, e3, e4⟩

/-- What back leaves: a closure over three boxes of its own. -/
def BPost (A : Option Addr) (c : Nat) (L : List ByteArray) (w : World) (e : Ending) (w' : World) : Prop :=
  ∃ gn gh gb hv, e = .returned (.func (.func 80) #[] #[.pointer (some ⟨gn, 0, none⟩), .pointer (some ⟨gh, 0, none⟩), .pointer (some ⟨gb, 0, none⟩)]) ∧ Cl w' w.heap.size A c L L.length gn gh gb hv ∧ w.heap.size ≤ gn ∧ w.heap.size ≤ gh ∧ w.heap.size ≤ gb ∧ Below w.heap.size w w'

set_option maxHeartbeats 2000000 in
theorem back_any (A : Option Addr) (c : Nat) (L : List ByteArray) (w : World) (hL : Strs w w.heap.size A L) (hn : L.length ≤ 8796093022208) (hz : ∀ s ∈ L, s.size ≤ 140737488351232) :
    Calls Try.prog 52 #[.slice A L.length c] w (BPost A c L w) := by
  go_enter Try.func52, Try.ntmps52
  go_wp2_with fail
  go_outline
  have hc0 : (w.alloc (.cells #[.slice A L.length c] 27)).cell? ⟨w.heap.size, 0, none⟩ = some (.slice A L.length c) := by simp [World.cell?_alloc_new]
  go_region_held3 (fun w' => w'.cell? ⟨w.heap.size, 0, none⟩ = some (.slice A L.length c)) (first | go_keep | assumption | (repeat rw [World.cell?_setCell_other _ _ _ _ (ne_blk (by omega))]; assumption))
    (first | (go_at_call 57; refine (heads_any A c L _ ((hL.below ?_).more ?_) hn hz).mono ?_; (exact below_steps (by repeat (first | exact Below.refl _ _ | refine Below.drew ?_ | refine Below.alloc ?_ (by simp <;> omega) _))); (simp <;> omega); rintro e w1 ⟨v, rfl, hown, hb⟩; obtain ⟨g, cap, rfl⟩ := ownsRow_succ hown; obtain ⟨hcb, hfb⟩ := bcell hb; have hzb := hb.size; simp at hzb; have q0 : w.heap.size < w1.heap.size := (by omega); (try have q1 : w.heap.size + 1 < w1.heap.size := (by omega)); (try have q2 : w.heap.size + 1 + 1 < w1.heap.size := (by omega)); have hx : w1.cell? ⟨w.heap.size, 0, none⟩ = some (.slice A L.length c) := (hb.cell (p := ⟨w.heap.size, 0, none⟩) (by simp; try omega)).trans (by assumption)))
  all_goals go_wp2_with fail
  all_goals go_ret
  all_goals have hg2 := (hown.lt g rfl).1
  all_goals have hg3 := (hown.lt g rfl).2
  all_goals simp at hg2
  · refine ⟨_, _, _, .slice (some ⟨g, 0, none⟩) (L.length + 1) cap, rfl, ⟨?_, ?_, ?_, ?_⟩, ?_, ?_, ?_, ?_⟩
    · (repeat (first
        | exact Blk.new _ _ _ _ (by simp)
        | exact Blk.new _ _ _ _ (by rfl)
        | refine Blk.alloc ?_ _
        | refine Blk.setO ?_ (by omega) _
        | refine Blk.set (t := 44) (v := .slice none 0 0) ?_ _
        | refine Blk.set (t := 3) (v := .int .i64 0) ?_ _
        | refine Blk.below ?_ hb
        | refine Blk.drew ?_))
    · (repeat (first
        | exact Blk.new _ _ _ _ (by simp)
        | exact Blk.new _ _ _ _ (by rfl)
        | refine Blk.alloc ?_ _
        | refine Blk.setO ?_ (by omega) _
        | refine Blk.set (t := 44) (v := .slice none 0 0) ?_ _
        | refine Blk.set (t := 3) (v := .int .i64 0) ?_ _
        | refine Blk.below ?_ hb
        | refine Blk.drew ?_))
    · (repeat (first
        | exact Blk.new _ _ _ _ (by simp)
        | exact Blk.new _ _ _ _ (by rfl)
        | refine Blk.alloc ?_ _
        | refine Blk.setO ?_ (by omega) _
        | refine Blk.set (t := 44) (v := .slice none 0 0) ?_ _
        | refine Blk.set (t := 3) (v := .int .i64 0) ?_ _
        | refine Blk.below ?_ hb
        | refine Blk.drew ?_))
    · (repeat (first | refine World.ownsRow.alloc ?_ _ | refine own_set ?_ _ (by omega) _ | exact own_base hown (by simp <;> omega) | exact own_base hown (by simp)))
    · omega
    · omega
    · omega
    · (repeat (first | exact Below.refl _ _ | refine Below.setCell ?_ (by first | omega | (simp; done) | (simp; omega)) _ | refine Below.alloc ?_ (by first | omega | (simp; done) | (simp; omega)) _ | refine Below.drew ?_ | refine Below.trans ?_ (hb.mono (by simp <;> omega))))
  · refine ⟨_, _, _, .slice (some ⟨g, 0, none⟩) (L.length + 1) cap, rfl, ⟨?_, ?_, ?_, ?_⟩, ?_, ?_, ?_, ?_⟩
    · (repeat (first
        | exact Blk.new _ _ _ _ (by simp)
        | exact Blk.new _ _ _ _ (by rfl)
        | refine Blk.alloc ?_ _
        | refine Blk.setO ?_ (by omega) _
        | refine Blk.set (t := 44) (v := .slice none 0 0) ?_ _
        | refine Blk.set (t := 3) (v := .int .i64 0) ?_ _
        | refine Blk.below ?_ hb
        | refine Blk.drew ?_))
    · (repeat (first
        | exact Blk.new _ _ _ _ (by simp)
        | exact Blk.new _ _ _ _ (by rfl)
        | refine Blk.alloc ?_ _
        | refine Blk.setO ?_ (by omega) _
        | refine Blk.set (t := 44) (v := .slice none 0 0) ?_ _
        | refine Blk.set (t := 3) (v := .int .i64 0) ?_ _
        | refine Blk.below ?_ hb
        | refine Blk.drew ?_))
    · (repeat (first
        | exact Blk.new _ _ _ _ (by simp)
        | exact Blk.new _ _ _ _ (by rfl)
        | refine Blk.alloc ?_ _
        | refine Blk.setO ?_ (by omega) _
        | refine Blk.set (t := 44) (v := .slice none 0 0) ?_ _
        | refine Blk.set (t := 3) (v := .int .i64 0) ?_ _
        | refine Blk.below ?_ hb
        | refine Blk.drew ?_))
    · (repeat (first | refine World.ownsRow.alloc ?_ _ | refine own_set ?_ _ (by omega) _ | exact own_base hown (by simp <;> omega) | exact own_base hown (by simp)))
    · omega
    · omega
    · omega
    · (repeat (first | exact Below.refl _ _ | refine Below.setCell ?_ (by first | omega | (simp; done) | (simp; omega)) _ | refine Below.alloc ?_ (by first | omega | (simp; done) | (simp; omega)) _ | refine Below.drew ?_ | refine Below.trans ?_ (hb.mono (by simp <;> omega))))
  · refine ⟨_, _, _, .slice (some ⟨g, 0, none⟩) (L.length + 1) cap, rfl, ⟨?_, ?_, ?_, ?_⟩, ?_, ?_, ?_, ?_⟩
    · (repeat (first
        | exact Blk.new _ _ _ _ (by simp)
        | exact Blk.new _ _ _ _ (by rfl)
        | refine Blk.alloc ?_ _
        | refine Blk.setO ?_ (by omega) _
        | refine Blk.set (t := 44) (v := .slice none 0 0) ?_ _
        | refine Blk.set (t := 3) (v := .int .i64 0) ?_ _
        | refine Blk.below ?_ hb
        | refine Blk.drew ?_))
    · (repeat (first
        | exact Blk.new _ _ _ _ (by simp)
        | exact Blk.new _ _ _ _ (by rfl)
        | refine Blk.alloc ?_ _
        | refine Blk.setO ?_ (by omega) _
        | refine Blk.set (t := 44) (v := .slice none 0 0) ?_ _
        | refine Blk.set (t := 3) (v := .int .i64 0) ?_ _
        | refine Blk.below ?_ hb
        | refine Blk.drew ?_))
    · (repeat (first
        | exact Blk.new _ _ _ _ (by simp)
        | exact Blk.new _ _ _ _ (by rfl)
        | refine Blk.alloc ?_ _
        | refine Blk.setO ?_ (by omega) _
        | refine Blk.set (t := 44) (v := .slice none 0 0) ?_ _
        | refine Blk.set (t := 3) (v := .int .i64 0) ?_ _
        | refine Blk.below ?_ hb
        | refine Blk.drew ?_))
    · (repeat (first | refine World.ownsRow.alloc ?_ _ | refine own_set ?_ _ (by omega) _ | exact own_base hown (by simp <;> omega) | exact own_base hown (by simp)))
    · omega
    · omega
    · omega
    · (repeat (first | exact Below.refl _ _ | refine Below.setCell ?_ (by first | omega | (simp; done) | (simp; omega)) _ | refine Below.alloc ?_ (by first | omega | (simp; done) | (simp; omega)) _ | refine Below.drew ?_ | refine Below.trans ?_ (hb.mono (by simp <;> omega))))
  · refine ⟨_, _, _, .slice (some ⟨g, 0, none⟩) (L.length + 1) cap, rfl, ⟨?_, ?_, ?_, ?_⟩, ?_, ?_, ?_, ?_⟩
    · (repeat (first
        | exact Blk.new _ _ _ _ (by simp)
        | exact Blk.new _ _ _ _ (by rfl)
        | refine Blk.alloc ?_ _
        | refine Blk.setO ?_ (by omega) _
        | refine Blk.set (t := 44) (v := .slice none 0 0) ?_ _
        | refine Blk.set (t := 3) (v := .int .i64 0) ?_ _
        | refine Blk.below ?_ hb
        | refine Blk.drew ?_))
    · (repeat (first
        | exact Blk.new _ _ _ _ (by simp)
        | exact Blk.new _ _ _ _ (by rfl)
        | refine Blk.alloc ?_ _
        | refine Blk.setO ?_ (by omega) _
        | refine Blk.set (t := 44) (v := .slice none 0 0) ?_ _
        | refine Blk.set (t := 3) (v := .int .i64 0) ?_ _
        | refine Blk.below ?_ hb
        | refine Blk.drew ?_))
    · (repeat (first
        | exact Blk.new _ _ _ _ (by simp)
        | exact Blk.new _ _ _ _ (by rfl)
        | refine Blk.alloc ?_ _
        | refine Blk.setO ?_ (by omega) _
        | refine Blk.set (t := 44) (v := .slice none 0 0) ?_ _
        | refine Blk.set (t := 3) (v := .int .i64 0) ?_ _
        | refine Blk.below ?_ hb
        | refine Blk.drew ?_))
    · (repeat (first | refine World.ownsRow.alloc ?_ _ | refine own_set ?_ _ (by omega) _ | exact own_base hown (by simp <;> omega) | exact own_base hown (by simp)))
    · omega
    · omega
    · omega
    · (repeat (first | exact Below.refl _ _ | refine Below.setCell ?_ (by first | omega | (simp; done) | (simp; omega)) _ | refine Below.alloc ?_ (by first | omega | (simp; done) | (simp; omega)) _ | refine Below.drew ?_ | refine Below.trans ?_ (hb.mono (by simp <;> omega))))
  · refine ⟨_, _, _, .slice (some ⟨g, 0, none⟩) (L.length + 1) cap, rfl, ⟨?_, ?_, ?_, ?_⟩, ?_, ?_, ?_, ?_⟩
    · (repeat (first
        | exact Blk.new _ _ _ _ (by simp)
        | exact Blk.new _ _ _ _ (by rfl)
        | refine Blk.alloc ?_ _
        | refine Blk.setO ?_ (by omega) _
        | refine Blk.set (t := 44) (v := .slice none 0 0) ?_ _
        | refine Blk.set (t := 3) (v := .int .i64 0) ?_ _
        | refine Blk.below ?_ hb
        | refine Blk.drew ?_))
    · (repeat (first
        | exact Blk.new _ _ _ _ (by simp)
        | exact Blk.new _ _ _ _ (by rfl)
        | refine Blk.alloc ?_ _
        | refine Blk.setO ?_ (by omega) _
        | refine Blk.set (t := 44) (v := .slice none 0 0) ?_ _
        | refine Blk.set (t := 3) (v := .int .i64 0) ?_ _
        | refine Blk.below ?_ hb
        | refine Blk.drew ?_))
    · (repeat (first
        | exact Blk.new _ _ _ _ (by simp)
        | exact Blk.new _ _ _ _ (by rfl)
        | refine Blk.alloc ?_ _
        | refine Blk.setO ?_ (by omega) _
        | refine Blk.set (t := 44) (v := .slice none 0 0) ?_ _
        | refine Blk.set (t := 3) (v := .int .i64 0) ?_ _
        | refine Blk.below ?_ hb
        | refine Blk.drew ?_))
    · (repeat (first | refine World.ownsRow.alloc ?_ _ | refine own_set ?_ _ (by omega) _ | exact own_base hown (by simp <;> omega) | exact own_base hown (by simp)))
    · omega
    · omega
    · omega
    · (repeat (first | exact Below.refl _ _ | refine Below.setCell ?_ (by first | omega | (simp; done) | (simp; omega)) _ | refine Below.alloc ?_ (by first | omega | (simp; done) | (simp; omega)) _ | refine Below.drew ?_ | refine Below.trans ?_ (hb.mono (by simp <;> omega))))
  · refine ⟨_, _, _, .slice (some ⟨g, 0, none⟩) (L.length + 1) cap, rfl, ⟨?_, ?_, ?_, ?_⟩, ?_, ?_, ?_, ?_⟩
    · (repeat (first
        | exact Blk.new _ _ _ _ (by simp)
        | exact Blk.new _ _ _ _ (by rfl)
        | refine Blk.alloc ?_ _
        | refine Blk.setO ?_ (by omega) _
        | refine Blk.set (t := 44) (v := .slice none 0 0) ?_ _
        | refine Blk.set (t := 3) (v := .int .i64 0) ?_ _
        | refine Blk.below ?_ hb
        | refine Blk.drew ?_))
    · (repeat (first
        | exact Blk.new _ _ _ _ (by simp)
        | exact Blk.new _ _ _ _ (by rfl)
        | refine Blk.alloc ?_ _
        | refine Blk.setO ?_ (by omega) _
        | refine Blk.set (t := 44) (v := .slice none 0 0) ?_ _
        | refine Blk.set (t := 3) (v := .int .i64 0) ?_ _
        | refine Blk.below ?_ hb
        | refine Blk.drew ?_))
    · (repeat (first
        | exact Blk.new _ _ _ _ (by simp)
        | exact Blk.new _ _ _ _ (by rfl)
        | refine Blk.alloc ?_ _
        | refine Blk.setO ?_ (by omega) _
        | refine Blk.set (t := 44) (v := .slice none 0 0) ?_ _
        | refine Blk.set (t := 3) (v := .int .i64 0) ?_ _
        | refine Blk.below ?_ hb
        | refine Blk.drew ?_))
    · (repeat (first | refine World.ownsRow.alloc ?_ _ | refine own_set ?_ _ (by omega) _ | exact own_base hown (by simp <;> omega) | exact own_base hown (by simp)))
    · omega
    · omega
    · omega
    · (repeat (first | exact Below.refl _ _ | refine Below.setCell ?_ (by first | omega | (simp; done) | (simp; omega)) _ | refine Below.alloc ?_ (by first | omega | (simp; done) | (simp; omega)) _ | refine Below.drew ?_ | refine Below.trans ?_ (hb.mono (by simp <;> omega))))
end Go.Proofs.Ytmcihmcgkhijcaa.ChainC
