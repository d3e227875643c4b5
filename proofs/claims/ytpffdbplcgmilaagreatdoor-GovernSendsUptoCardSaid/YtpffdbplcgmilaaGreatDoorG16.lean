/- Texts of the proof, joined: Inv, BitsP, SixtyP, SixtyQ, CoP, ConC, Min. -/
import Derived.Test.YtpffdbplcgmilaaGreatDoorG9
import Derived.Test.YtpffdbplcgmilaaGreatDoorG1
import Derived.Lib.IndexBytes
import Derived.Lib.TrimByte
import Derived.Test.YtpffdbplcgmilaaGreatDoorG13
import Derived.Test.YtpffdbplcgmilaaGreatDoorG7
import Derived.Test.YtpffdbplcgmilaaGreatDoorG12
section
namespace Go.Proofs.YtpffdbplcgmilaaGreatDoor.Abs
open Go.RowKit Mem Facts
section
variable {P : Program} {N : Env} {M : Nat → Prop} {o : Oper} {s : S} {a : Act} {w : World}
/-- The method of that name, of a value of type T: function f, handed the value as it is. -/
def MethOf (P : Program) (T : TypeId) (name : String) (f : FuncId) : Prop := ∀ (x : Value) (w : World), (Go.method (P.types.size + Made.depth) T x name).run P w = .ok (f, x) w
theorem run_inv {f : Nat} {T : TypeId} {name : String} {g : Operand} {xs : Array Operand} {ts : Array TypeId} {x : Value} (ho : o.op = .call { callee := .invoke g name, args := xs, argTypes := ts }) (hg : a.eval g = .iface T x) (hm : MethOf P T name f) (hc : ∀ (fs : Array Value) (w : World), (callFunc f fs).run P w = .ok (.enter f fs) w) : (execOp a.eval o).run P w = .ok (.enter f (#[x] ++ xs.map a.eval)) w := by
  have e1 : (#[Value.iface T x] ++ xs.map a.eval)[0]? = some (.iface T x) := by
    rw [Array.getElem?_append_left (by simp)]
    rfl
  have e2 : (#[Value.iface T x] ++ xs.map a.eval).extract 1 (#[Value.iface T x] ++ xs.map a.eval).size = xs.map a.eval := by
    apply Array.ext
    · simp
    · intro i h1 h2
      rw [Array.getElem_extract, Array.getElem_append_right (by simp)]
      simp
  have e3 : (callMethod (.iface T x) name (xs.map a.eval)).run P w = (callFunc f (#[x] ++ xs.map a.eval)).run P w := by
    have hx : (Go.method (P.types.size + 100) T x name).run P w = .ok (f, x) w := hm x w
    simp [callMethod, go_sem]
    rw [hx]
    rfl
  unfold execOp
  simp only [ho, resolve, hg, Sem.run_bind, Sem.run_pure, Result.andThen_ok, invoke, e1, e2]
  rw [e3]
  exact hc _ _
theorem law_inv {f : Nat} {T : TypeId} {name : String} {g : Operand} {xs : Array Operand} {ts : Array TypeId} {vs : List V} {v r : V} (ho : o.op = .call { callee := .invoke g name, args := xs, argTypes := ts }) (hm : MethOf P T name f) (hc : ∀ (fs : Array Value) (w : World), (callFunc f fs).run P w = .ok (.enter f fs) w) (hl : vs.length = xs.size)
    (h : ACallsG P N.g f (v :: vs) r) (hn : V.namesL (v :: vs) = []) : OpLaw P N o ⟨(g, .ifc T v) :: tsOf xs.toList vs, []⟩ r [] [] := fun s M A φ a w hh hr _ hd => by
  obtain ⟨x, g1, g2⟩ : ∃ x, a.eval g = .iface T x ∧ Rep (fun b => M b ∨ N b) A φ w v x := by
    have := hr.ev hh.a
    generalize a.eval g = y at this
    cases this with
    | fz h => cases h with
      | ifc h => exact ⟨_, rfl, .fz h⟩
    | ifc h => exact ⟨_, rfl, h⟩
  have hh' : Holds ⟨tsOf xs.toList vs, []⟩ s := ⟨fun p hp => hh.1 p (List.mem_cons_of_mem _ hp), hh.2⟩
  unfold Oper.wp
  rw [run_inv ho g1 hm hc]
  refine Calls.mono (h (fun b => M b ∨ N b) w _ hr.gl hr.lim (by simp; omega) fun i u y hu hy => rep_fz (X := fun b => M b ∨ N b) (A := A) (φ := φ) ?_ (List.eq_nil_iff_forall_not_mem.2 fun m hm => ?_)) ?_
  · rcases i with _ | i
    · rw [Array.getElem?_append_left (by simp)] at hy
      simp at hu hy
      subst hu hy
      exact g2
    · have hy : (xs.map a.eval)[i]? = some y := by
        rw [Array.getElem?_append_right (by simp)] at hy
        simpa using hy
      simp only [Array.getElem?_map, Option.map_eq_some_iff] at hy
      obtain ⟨p, hp, rfl⟩ := hy
      exact hr.ev (ts_at hh' i p u (by simpa using hp) (by simpa using hu))
  · have := mem_namesL.2 ⟨u, List.mem_of_getElem? hu, hm⟩
    rw [hn] at this; cases this
  · rintro e w' ⟨x, rfl, hb, hfz⟩
    exact rel_grow_dst hr hb (.fz hfz) hd
end
section
variable {P : Program} {N : Env} {l r : List Oper} {o : Oper} {tm : List (Nat × V)} {st : List (Nat × Option Blk)} {nx nt : Nat} {tr : List Tr} {K : S → List Tr → Prop} {d : Nat}
theorem x_inv {f : Nat} {T : TypeId} {name : String} {g : Operand} {xs : Array Operand} {ts : Array TypeId} {vs : List V} {v w : V} (h : ACallsG P N.g f (v :: vs) w) (hm : MethOf P T name f) (k : ARun P N l K r ⟨(d, w) :: tm, st, nx, nt⟩ (tr ++ [trOf l o ⟨(g, .ifc T v) :: tsOf xs.toList vs, []⟩ []])) (ho : o.op = .call { callee := .invoke g name, args := xs, argTypes := ts } := by rfl) (hf : S.ev ⟨tm, st, nx, nt⟩ g = some (.ifc T v) := by rfl) (he : evL ⟨tm, st, nx, nt⟩ xs.toList = some vs := by rfl) (hg : guardV l o ⟨tm, st, nx, nt⟩ = some true := by rfl) (hd : o.dst = some d := by rfl) (hlt : Nat.blt d nt = true := by rfl) (hb : hasBody P f = true := by kernel_rfl) (hn : V.namesL (v :: vs) = [] := by rfl) : ARun P N l K (o :: r) ⟨tm, st, nx, nt⟩ tr := r_val hg hd hlt (law_inv ho hm (enters hb) (ev_len he) h hn) (hT hf (ts_of he fun p hp => by cases hp)) k
end
/-- A cell's value. -/
def cellV : V → Bool
  | .agg _ => false
  | _ => true
theorem cells_plain {cs : List V} (h : cs.all cellV = true) : ∀ u ∈ cs, u.cells = [u] := fun u hu => by
  have := List.all_eq_true.1 h u hu
  cases u <;> first | rfl | cases this
section
variable {P : Program} {tb : List Ty} {e ee : Ty} {N : Env} {l r : List Oper} {o : Oper} {tm : List (Nat × V)} {st : List (Nat × Option Blk)} {nx nt : Nat} {tr : List Tr} {K : S → List Tr → Prop} {d : Nat} {T : TypeId} {x : Operand}
theorem x_slA {cs : List V} {off len el : Nat} (htb : TbOk P tb) (k : ARun P N l K r ⟨(d, .fro ((cs.drop off).take len)) :: tm, st, nx, nt⟩ (tr ++ [trOf l o ⟨[(x, .fp cs off)], []⟩ []])) (ho : o.op = .slice T x none none none := by rfl) (hx : S.ev ⟨tm, st, nx, nt⟩ x = some (.fp cs off) := by rfl) (hg : guardV l o ⟨tm, st, nx, nt⟩ = some true := by rfl) (hd : o.dst = some d := by rfl) (hlt : Nat.blt d nt = true := by rfl) (hT' : nth tb T = some e := by rfl) (hs : e.arr = some (len, el) := by rfl) (hE : nth tb el = some ee := by rfl) (h1 : ee.size = 1 := by rfl) (h0' : Nat.blt 0 len = true := by rfl) (hl : Nat.ble len LIM = true := by rfl) (hc : Nat.ble (off + len) cs.length = true := by rfl) (hone : cs.all cellV = true := by rfl) : ARun P N l K (o :: r) ⟨tm, st, nx, nt⟩ tr := r_val hg hd hlt (law_slice_arr_fp htb ho hT' hs hE h1 (Nat.le_of_ble_eq_true h0') (Nat.le_of_ble_eq_true hl) (Nat.le_of_ble_eq_true hc) (cells_plain hone)) (hT hx h0) k
/-- A load of frozen memory, at a place that is told by a number's name. -/
theorem x_ldF {cs : List V} {off : Nat} {w : V} (htb : TbOk P tb) (hv : subV cs off e.agg e.size = some w) (k : ARun P N l K r ⟨(d, w) :: tm, st, nx, nt⟩ (tr ++ [trOf l o ⟨[(x, .fp cs off)], []⟩ []])) (ho : o.op = .load T x := by rfl) (hx : S.ev ⟨tm, st, nx, nt⟩ x = some (.fp cs off) := by rfl) (hg : guardV l o ⟨tm, st, nx, nt⟩ = some true := by rfl) (hd : o.dst = some d := by rfl) (hlt : Nat.blt d nt = true := by rfl) (hT' : nth tb T = some e := by rfl) : ARun P N l K (o :: r) ⟨tm, st, nx, nt⟩ tr := r_val hg hd hlt (law_load_fp htb ho hT' hv) (hT hx h0) k
end
/-- us is vs, its nil slices named. -/
inductive NilAs (k : Nat) : List V → List V → Prop
  | nil : NilAs k [] []
  | same {v vs us} : NilAs k vs us → NilAs k (v :: vs) (v :: us)
  | at {n vs us} : n < k → NilAs k vs us → NilAs k (.nils :: vs) (.own n 0 0 :: us)
  | agg {cs ds vs us} : NilAs k cs ds → NilAs k vs us → NilAs k (.agg cs :: vs) (.agg ds :: us)
section
variable {X A : Nat → Prop} {φ : Nat → Pl} {w : World}
theorem Rep.nf1 {v : V} {x : Value} (h : Rep X A φ w v x) : Rep X A φ w v.nf1 x := by
  cases h with
  | fz h => exact .fz h.nf1
  | agg a b c => exact .agg a b c
  | tup a b => exact .tup a b
  | fn a b c d => exact .fn a b c d
  | ifc h => exact .ifc h
  | own0 a b => exact .own0 a b
  | own a b c d => exact .own a b c d
  | loc a b => exact .loc a b
  | mp a b => exact .mp a b
theorem Rep.nf {v : V} {x : Value} (h : Rep X A φ w v x) : Rep X A φ w v.nf x := by
  cases h with
  | fz h => exact .fz h.nf
  | @agg vs cs h1 h2 h3 =>
    refine .agg (by simpa using h1) (fun v hv => ?_) fun i x c hx hc => ?_
    · obtain ⟨u, hu, rfl⟩ := List.mem_map.1 hv
      have := h2 u hu
      cases u <;> first | rfl | exact this
    · rw [List.getElem?_map, Option.map_eq_some_iff] at hx
      obtain ⟨u, hu, rfl⟩ := hx
      exact (h3 i u c hu hc).nf1
  | tup a b => exact .tup a b
  | fn a b c d => exact .fn a b c d
  | ifc h => exact .ifc h
  | own0 a b => exact .own0 a b
  | own a b c d => exact .own a b c d
  | loc a b => exact .loc a b
  | mp a b => exact .mp a b
end
theorem MCallsG.nf {P : Program} {g : Glob} {f : FuncId} {args args' : List V} {st : List Blk} {r : V} {st' : List (Option Blk)} (h : MCallsG P g f args' st r st') (e : args.map V.nf = args') : MCallsG P g f args st r st' := fun N M φ w vs hr hl hv => by
  subst e
  refine h N M φ w vs hr (by simpa using hl) fun i x c hx hc => ?_
  rw [List.getElem?_map, Option.map_eq_some_iff] at hx
  obtain ⟨u, hu, rfl⟩ := hx
  exact (hv i u c hu hc).nf
/-- A call whose answers are rows of one's own, as one whose answers nobody changes any more. -/
theorem mcallsG_frz {P : Program} {g : Glob} {f : FuncId} {args : List V} {rv u : V} {bs : List Blk} (h : MCallsG P g f args [] rv (bs.map some)) (hf : frz (fun n => bs[n]?) rv = some u) (hok : FrzOk (fun n => bs[n]?) rv) : ACallsG P g f args u := fun N w vs hG hN hlen hv => by
  have hblk : ∀ n k, (S.mk [] (rowsFrom bs 0) bs.length 0).blk n = some k ↔ bs[n]? = some k := fun n k => by
    unfold S.blk
    simp only [lk_rows, Nat.zero_le, if_true, Nat.sub_zero]
    cases bs[n]? <;> simp
  refine Calls.mono (h N (fun _ => False) (fun _ => ⟨none, 0, 0⟩) w vs ⟨fun n k hk => by simp at hk, fun n n' k k' b e1 => by simp at e1, fun b hb => hN b (hb.elim False.elim id), fun b hb => hb.elim, hG.sub fun b hb => hb.elim False.elim id⟩ hlen fun i v x hv' hx => .fz ((hv i v x hv' hx).mono (fun b _ hb => hb.elim False.elim id) (.refl _ w))) ?_
  rintro e w' ⟨x, M2, φ2, rfl, hs, hM, _, rows2, hrep⟩
  have at2 : ∀ n k, bs[n]? = some k → (bs.map some)[n]? = some (some k) := fun n k hk => by rw [List.getElem?_map, hk]; rfl
  have rel : Rel ⟨⟨N, g⟩, 0, fun _ => ⟨none, 0, 0⟩, []⟩ M2 (· < (bs.map some).length) φ2 ⟨[], rowsFrom bs 0, bs.length, 0⟩ ⟨#[], []⟩ w' :=
    ⟨fun t v ht => by simp [lk] at ht, rfl, fun n k hk => rows2.st n k (at2 n k ((hblk n k).1 hk)), fun n n' k k' b e1 e2 => rows2.inj n n' k k' b (at2 n k ((hblk n k).1 e1)) (at2 n' k' ((hblk n' k').1 e2)), rows2.lim, rows2.dis, rfl, fun n hn => by exact absurd hn (Nat.not_lt_zero n), rows2.gl⟩
  exact ⟨x, rfl, hs.below, rel.frz (b := fun n => bs[n]?) (fun n k hk => (hblk n k).2 hk) hrep hf hok⟩
end Go.Proofs.YtpffdbplcgmilaaGreatDoor.Abs
end

section
namespace Go.Proofs.YtpffdbplcgmilaaGreatDoor.BitsP

/-- The lowest w bits of a number, the highest first. -/
def bitsOf (n : Nat) : Nat → List Nat
  | 0 => []
  | w + 1 => n / 2 ^ w % 2 :: bitsOf n w
theorem bitsOf_len (n w : Nat) : (bitsOf n w).length = w := by
  induction w with
  | zero => rfl
  | succ w ih => simp [bitsOf, ih]
def Bin (l : List Nat) : Prop := ∀ b ∈ l, b < 2
theorem Bin.app {l m : List Nat} (h : Bin l) (k : Bin m) : Bin (l ++ m) := fun b hb => by
  rcases List.mem_append.1 hb with x | x
  · exact h b x
  · exact k b x
theorem Bin.left {l m : List Nat} (h : Bin (l ++ m)) : Bin l := fun b hb => h b (List.mem_append_left _ hb)
theorem Bin.right {l m : List Nat} (h : Bin (l ++ m)) : Bin m := fun b hb => h b (List.mem_append_right _ hb)
theorem bin_nil : Bin [] := fun _ h => by cases h
theorem bitsOf_bin (n w : Nat) : Bin (bitsOf n w) := by
  induction w with
  | zero => exact bin_nil
  | succ w ih => intro b hb; simp only [bitsOf, List.mem_cons] at hb; rcases hb with rfl | hb; omega; exact ih b hb
theorem Bin.getD {l : List Nat} (h : Bin l) (i : Nat) : l.getD i 0 < 2 := by
  rw [List.getD_eq_getElem?_getD]
  rcases hl : l[i]? with _ | b
  · simp
  · exact h b (List.mem_of_getElem? hl)

/-- Byte j of bits. -/
def byteAt (l : List Nat) (j : Nat) : Nat := l.getD (8 * j) 0 * 128 + l.getD (8 * j + 1) 0 * 64 + l.getD (8 * j + 2) 0 * 32 + l.getD (8 * j + 3) 0 * 16 + l.getD (8 * j + 4) 0 * 8 + l.getD (8 * j + 5) 0 * 4 + l.getD (8 * j + 6) 0 * 2 + l.getD (8 * j + 7) 0
def packB (l : List Nat) : List Nat := (List.range ((l.length + 7) / 8)).map (byteAt l)
def packBZ (l : List Nat) : List Nat := (List.range (l.length / 8 + 1)).map (byteAt l)
theorem packB_len (l : List Nat) : (packB l).length = (l.length + 7) / 8 := by simp [packB]
theorem byteAt_lt {l : List Nat} (h : Bin l) (j : Nat) : byteAt l j < 256 := by
  unfold byteAt
  have h0 := h.getD (8 * j); have h1 := h.getD (8 * j + 1); have h2 := h.getD (8 * j + 2); have h3 := h.getD (8 * j + 3)
  have h4 := h.getD (8 * j + 4); have h5 := h.getD (8 * j + 5); have h6 := h.getD (8 * j + 6); have h7 := h.getD (8 * j + 7)
  omega
theorem snoc_ind {p : List Nat → Prop} (h0 : p []) (h1 : ∀ l b, p l → p (l ++ [b])) : ∀ l, p l := fun l => by
  rw [← List.reverse_reverse l]
  induction l.reverse with
  | nil => exact h0
  | cons b m ih => rw [List.reverse_cons]; exact h1 _ _ ih
/-- A number of bits. -/
def num (l : List Nat) : Nat := l.foldl (fun n b => 2 * n + b) 0
theorem num_snoc (l : List Nat) (b : Nat) : num (l ++ [b]) = 2 * num l + b := by unfold num; rw [List.foldl_append]; rfl
theorem num_lt {l : List Nat} (h : Bin l) : num l < 2 ^ l.length := by
  revert h
  refine snoc_ind (p := fun l => Bin l → num l < 2 ^ l.length) (fun _ => by decide) (fun l b ih h => ?_) l
  · have h1 := ih h.left
    have h2 : b < 2 := h b (by simp)
    rw [num_snoc, List.length_append, List.length_singleton, Nat.pow_succ]; omega
theorem num_app (l m : List Nat) : num (l ++ m) = num l * 2 ^ m.length + num m := by
  refine snoc_ind (p := fun m => num (l ++ m) = num l * 2 ^ m.length + num m) (by simp [num]) (fun m b ih => ?_) m
  · rw [← List.append_assoc, num_snoc, num_snoc, ih, List.length_append, List.length_singleton, Nat.pow_succ, Nat.mul_add]; rw [Nat.mul_comm 2 (num l * 2 ^ m.length), Nat.mul_assoc]; omega
theorem num_bitsOf (n w : Nat) : num (bitsOf n w) = n % 2 ^ w := by
  induction w with
  | zero => simp [bitsOf, num, Nat.mod_one]
  | succ w ih =>
    rw [show bitsOf n (w + 1) = [n / 2 ^ w % 2] ++ bitsOf n w from rfl, num_app, ih, bitsOf_len, Nat.pow_succ, Nat.mod_mul]
    simp [num, Nat.mul_comm, Nat.add_comm]

/-- The bits of bytes. -/
def tbits (l : List UInt8) : List Nat := l.flatMap fun c => bitsOf c.toNat 8
theorem tbits_len (l : List UInt8) : (tbits l).length = 8 * l.length := by
  induction l with
  | nil => rfl
  | cons c l ih => rw [tbits, List.flatMap_cons, List.length_append, bitsOf_len, ← tbits, ih, List.length_cons]; omega
theorem tbits_bin (l : List UInt8) : Bin (tbits l) := by
  intro b hb
  simp only [tbits, List.mem_flatMap] at hb
  obtain ⟨c, _, hb⟩ := hb
  exact bitsOf_bin _ _ b hb
theorem bitsOf_at (n w i : Nat) (h : i < w) : (bitsOf n w)[i]? = some (n / 2 ^ (w - 1 - i) % 2) := by
  induction w generalizing i with
  | zero => omega
  | succ w ih =>
    rcases i with _ | i
    · simp [bitsOf]
    · simp only [bitsOf, List.getElem?_cons_succ]
      rw [ih i (by omega), show w + 1 - 1 - (i + 1) = w - 1 - i from by omega]
theorem tbits_at : ∀ (l : List UInt8) (i : Nat) (h : i < 8 * l.length), (tbits l)[i]? = some ((l[i / 8]'(by omega)).toNat / 2 ^ (7 - i % 8) % 2)
  | [], i, h => absurd h (by simp)
  | c :: l, i, h => by
    rw [tbits, List.flatMap_cons, ← tbits]
    by_cases h8 : i < 8
    · rw [List.getElem?_append_left (by rw [bitsOf_len]; exact h8), bitsOf_at _ _ _ h8]
      have e : i / 8 = 0 := by omega
      simp only [e, List.getElem_cons_zero]
      rw [show 8 - 1 - i = 7 - i % 8 from by omega]
    · rw [List.getElem?_append_right (by rw [bitsOf_len]; omega), bitsOf_len, tbits_at l (i - 8) (by simp at h; omega)]
      have e : i / 8 = (i - 8) / 8 + 1 := by omega
      simp only [e, List.getElem_cons_succ]
      rw [show (i - 8) % 8 = i % 8 from by omega]
end Go.Proofs.YtpffdbplcgmilaaGreatDoor.BitsP
end

section
namespace Go.Proofs.YtpffdbplcgmilaaGreatDoor.SixtyP
open BitsP

def abc : List UInt8 := [65, 66, 67, 68, 69, 70, 71, 72, 73, 74, 75, 76, 77, 78, 79, 80, 81, 82, 83, 84, 85, 86, 87, 88, 89, 90, 97, 98, 99, 100, 101, 102, 103, 104, 105, 106, 107, 108, 109, 110, 111, 112, 113, 114, 115, 116, 117, 118, 119, 120, 121, 122, 48, 49, 50, 51, 52, 53, 54, 55, 56, 57, 45, 95]
def letter (n : Nat) : UInt8 := abc.getD n 0
/-- Letters for bits, six by six; the last ones are filled up with noughts. -/
def enc6 : List Nat → List UInt8
  | a :: b :: c :: d :: e :: f :: r => letter (num [a, b, c, d, e, f]) :: enc6 r
  | [] => []
  | l => [letter (num l * 2 ^ (6 - l.length))]
theorem enc6_step (l : List Nat) (h : l ≠ []) : enc6 l = letter (num (l.take (min 6 l.length)) * 2 ^ (6 - min 6 l.length)) :: enc6 (l.drop (min 6 l.length)) := by
  match l, h with
  | [a], _ => rfl
  | [a, b], _ => rfl
  | [a, b, c], _ => rfl
  | [a, b, c, d], _ => rfl
  | [a, b, c, d, e], _ => rfl
  | a :: b :: c :: d :: e :: f :: r, _ =>
    have e : min 6 (a :: b :: c :: d :: e :: f :: r).length = 6 := by simp
    rw [e]
    simp [enc6]
theorem enc6_len : ∀ (n : Nat) (l : List Nat), l.length ≤ n → (enc6 l).length = (l.length + 5) / 6
  | 0, l, h => by
    obtain rfl : l = [] := List.eq_nil_of_length_eq_zero (by omega)
    rfl
  | n + 1, l, h => by
    by_cases h0 : l = []
    · subst h0; rfl
    · have hl : 0 < l.length := List.length_pos_iff.2 h0
      rw [enc6_step l h0, List.length_cons, enc6_len n _ (by rw [List.length_drop]; omega), List.length_drop]
      omega
/-- Six bits and more. -/
theorem enc6_app (a l : List Nat) (h : a.length = 6) : enc6 (a ++ l) = letter (num a) :: enc6 l := by
  match a, h with
  | [a, b, c, d, e, f], _ => rfl
end Go.Proofs.YtpffdbplcgmilaaGreatDoor.SixtyP
end

section
namespace Go.Proofs.YtpffdbplcgmilaaGreatDoor.SixtyQ
open BitsP SixtyP

def place (c : UInt8) : Nat := abc.idxOf c
theorem place_letter (n : Nat) (h : n < 64) : place (letter n) = n := by
  have key : ∀ m : Fin 64, place (letter m.val) = m.val := by decide +kernel
  exact key ⟨n, h⟩
def known (t : List UInt8) : Bool := t.all fun c => decide (place c < 64)
def dbits (t : List UInt8) : List Nat := t.flatMap fun c => bitsOf (place c) 6
theorem dbits_cons (c : UInt8) (t : List UInt8) : dbits (c :: t) = bitsOf (place c) 6 ++ dbits t := rfl
/-- Six bits' number, and back. -/
theorem bits_num (l : List Nat) (h : Bin l) : bitsOf (num l) l.length = l := by
  revert h
  refine snoc_ind (p := fun l => Bin l → bitsOf (num l) l.length = l) (fun _ => rfl) (fun l b ih h => ?_) l
  have h1 := ih h.left
  have h2 : b < 2 := h b (by simp)
  have key : ∀ (w n b : Nat), b < 2 → bitsOf (2 * n + b) (w + 1) = bitsOf n w ++ [b] := by
    intro w
    induction w with
    | zero => intro n b hb; simp [bitsOf]; omega
    | succ w ihw =>
      intro n b hb
      rw [bitsOf, ihw n b hb, bitsOf]
      simp only [List.cons_append, List.cons.injEq, and_true]
      rw [Nat.pow_succ, Nat.mul_comm (2 ^ w) 2, ← Nat.div_div_eq_div_mul]
      congr 2; omega
  rw [num_snoc, List.length_append, List.length_singleton, key _ _ _ h2, h1]
def pad6 (l : List Nat) : List Nat := l ++ List.replicate ((6 - l.length % 6) % 6) 0
theorem num_noughts (l : List Nat) (k : Nat) : num (l ++ List.replicate k 0) = num l * 2 ^ k := by
  induction k with
  | zero => simp
  | succ k ih => rw [List.replicate_succ', ← List.append_assoc, num_snoc, ih, Nat.pow_succ]; rw [Nat.add_zero, Nat.mul_comm 2, Nat.mul_assoc]
theorem bin_pad (l : List Nat) (k : Nat) (h : Bin l) : Bin (l ++ List.replicate k 0) := h.app fun b hb => by
  rw [(List.mem_replicate.1 hb).2]; omega
/-- One letter of a few bits. -/
theorem enc6_few (l : List Nat) (h0 : l ≠ []) (h : l.length ≤ 6) : enc6 l = [letter (num (l ++ List.replicate (6 - l.length) 0))] := by
  have hl : 0 < l.length := List.length_pos_iff.2 h0
  rw [enc6_step l h0, Nat.min_eq_right h, List.take_length, List.drop_length, num_noughts]; rfl
theorem dec6 : ∀ (n : Nat) (l : List Nat), l.length ≤ n → Bin l → known (enc6 l) = true ∧ dbits (enc6 l) = pad6 l
  | 0, l, h, hb => by
    obtain rfl : l = [] := List.eq_nil_of_length_eq_zero (by omega)
    exact ⟨rfl, rfl⟩
  | n + 1, l, h, hb => by
    by_cases h0 : l = []
    · subst h0; exact ⟨rfl, rfl⟩
    · have hl : 0 < l.length := List.length_pos_iff.2 h0
      have one : ∀ m : List Nat, Bin m → m.length = 6 → place (letter (num m)) < 64 ∧ bitsOf (place (letter (num m))) 6 = m := fun m hm h6 => by
        have h1 := num_lt hm
        rw [h6] at h1
        have h2 := bits_num m hm
        rw [h6] at h2
        rw [place_letter _ (by simpa using h1)]
        exact ⟨by simpa using h1, h2⟩
      by_cases h6 : l.length < 6
      · have e : (6 - l.length % 6) % 6 = 6 - l.length := by omega
        obtain ⟨o1, o2⟩ := one (l ++ List.replicate (6 - l.length) 0) (bin_pad l _ hb) (by simp; omega)
        rw [enc6_few l h0 (by omega)]
        unfold pad6
        rw [e]
        refine ⟨by simp [known, o1], ?_⟩
        rw [dbits_cons, o2]; simp [dbits]
      · have ht : (l.take 6).length = 6 := by rw [List.length_take]; omega
        have hs : l = l.take 6 ++ l.drop 6 := (List.take_append_drop 6 l).symm
        have e : pad6 l = l.take 6 ++ pad6 (l.drop 6) := by
          unfold pad6
          rw [← List.append_assoc, ← hs, List.length_drop]; congr 2; omega
        have hb' := hb
        rw [hs] at hb'
        obtain ⟨o1, o2⟩ := one (l.take 6) hb'.left ht
        obtain ⟨i1, i2⟩ := dec6 n (l.drop 6) (by rw [List.length_drop]; omega) hb'.right
        have e2 : enc6 l = letter (num (l.take 6)) :: enc6 (l.drop 6) := by
          conv => { lhs; rw [hs, enc6_app _ _ ht] }
        rw [e2, e]
        refine ⟨?_, by rw [dbits_cons, o2, i2]⟩
        unfold known at i1 ⊢
        rw [List.all_cons, i1, decide_eq_true o1]; rfl
/-- What Read says. -/
def readF (t : List UInt8) : List UInt8 × Nat :=
  if known t = false then ([], 1)
  else if t.length % 4 = 1 then ([], 1)
  else if 400 < t.length * 6 / 8 then ([], 2)
  else if num ((dbits t).drop (8 * (t.length * 6 / 8))) ≠ 0 then ([], 1)
  else ((packB ((dbits t).take (8 * (t.length * 6 / 8)))).map UInt8.ofNat, 0)
theorem tbits_app (a b : List UInt8) : tbits (a ++ b) = tbits a ++ tbits b := by simp [tbits]
theorem byteAt_num (l : List Nat) (j : Nat) (h : 8 * j + 8 ≤ l.length) : byteAt l j = num ((l.drop (8 * j)).take 8) := by
  have e : ∀ i, i < 8 → l.getD (8 * j + i) 0 = ((l.drop (8 * j)).take 8).getD i 0 := fun i hi => by
    simp only [List.getD_eq_getElem?_getD]
    rw [List.getElem?_take_of_lt hi, List.getElem?_drop]
  have hl : ((l.drop (8 * j)).take 8).length = 8 := by rw [List.length_take, List.length_drop]; omega
  unfold byteAt
  rw [show 8 * j = 8 * j + 0 from rfl, e 0 (by omega), Nat.add_zero, e 1 (by omega), e 2 (by omega), e 3 (by omega), e 4 (by omega), e 5 (by omega), e 6 (by omega), e 7 (by omega)]
  generalize (l.drop (8 * j)).take 8 = m at hl
  match m, hl with
  | [a, b, c, d, e, f, g, h], _ => simp [num]; omega
theorem pack_tbits (s : List UInt8) : (packB (tbits s)).map UInt8.ofNat = s := by
  have hl := tbits_len s
  apply List.ext_getElem
  · simp [packB_len, hl]; omega
  · intro i h1 h2
    have h3 : (tbits s).drop (8 * i) = tbits (s.drop i) := by
      conv => { lhs; rw [← List.take_append_drop i s, tbits_app] }
      rw [List.drop_left' (by rw [tbits_len, List.length_take]; omega)]
    simp only [packB, List.getElem_map, List.getElem_range]
    rw [byteAt_num _ _ (by omega), h3, List.drop_eq_getElem_cons h2]
    have h4 : tbits (s[i] :: s.drop (i + 1)) = bitsOf s[i].toNat 8 ++ tbits (s.drop (i + 1)) := rfl
    rw [h4, List.take_left' (bitsOf_len _ _), num_bitsOf, Nat.mod_eq_of_lt (by simpa using s[i].toNat_lt)]
    simp
/-- What is written is read as it was. -/
theorem read_write (s : List UInt8) (h : s.length ≤ 400) : readF (enc6 (tbits s)) = (s, 0) ∧ (enc6 (tbits s)).length = (8 * s.length + 5) / 6 := by
  have hl := tbits_len s
  have hel := enc6_len _ (tbits s) (Nat.le_refl _)
  rw [hl] at hel
  obtain ⟨k, d⟩ := dec6 _ (tbits s) (Nat.le_refl _) (tbits_bin s)
  refine ⟨?_, hel⟩
  unfold readF
  rw [k, d, hel]
  have e : (8 * s.length + 5) / 6 * 6 / 8 = s.length := by omega
  rw [e, if_neg (by decide), if_neg (by omega), if_neg (by omega)]
  unfold pad6
  rw [List.drop_left' (by omega), List.take_left' (by omega), pack_tbits, if_neg]
  have := num_noughts [] ((6 - (tbits s).length % 6) % 6)
  simp [num] at this
  simp [num, this]
/-! What Read looks at: the whole bytes, and what is left. -/
end Go.Proofs.YtpffdbplcgmilaaGreatDoor.SixtyQ
end

section
namespace Go.Proofs.YtpffdbplcgmilaaGreatDoor.ConP
open BitsP SixtyP SixtyQ

theorem snocI {α : Type} {p : List α → Prop} (h0 : p []) (h1 : ∀ l b, p l → p (l ++ [b])) : ∀ l, p l := fun l => by
  have key : ∀ r : List α, p r.reverse := fun r => by
    induction r with
    | nil => exact h0
    | cons b r ih => rw [List.reverse_cons]; exact h1 _ _ ih
  have := key l.reverse
  rwa [List.reverse_reverse] at this
/-! ### Runs -/
def consR (u : Nat) : List (Nat × Nat) → List (Nat × Nat)
  | [] => [(u, u)]
  | (a, b) :: r => if a = u + 1 then (u, b) :: r else (u, u) :: (a, b) :: r
def snocR : List (Nat × Nat) → Nat → List (Nat × Nat)
  | [], v => [(v, v)]
  | [(a, b)], v => if b + 1 = v then [(a, v)] else [(a, b), (v, v)]
  | p :: q :: r, v => p :: snocR (q :: r) v
def runsF : List Nat → List (Nat × Nat)
  | [] => []
  | u :: l => consR u (runsF l)
theorem snoc_cons (u v : Nat) : ∀ r : List (Nat × Nat), snocR (consR u r) v = consR u (snocR r v)
  | [] => by
    simp only [consR, snocR]
    by_cases h : u + 1 = v
    · rw [if_pos h, if_pos h.symm]
    · rw [if_neg h, if_neg fun e => h e.symm]
  | [(a, b)] => by
    simp only [consR, snocR]
    by_cases h1 : a = u + 1 <;> by_cases h2 : b + 1 = v <;> simp [h1, h2, snocR]
  | (a, b) :: q :: r => by
    simp only [consR, snocR]
    by_cases h1 : a = u + 1 <;> simp [h1, snocR]
theorem runs_snoc : ∀ (l : List Nat) (v : Nat), runsF (l ++ [v]) = snocR (runsF l) v
  | [], v => rfl
  | u :: l, v => by rw [List.cons_append, runsF, runsF, runs_snoc l v, snoc_cons]
theorem consR_len (u : Nat) : ∀ r, (consR u r).length ≤ r.length + 1
  | [] => by simp [consR]
  | (a, b) :: r => by simp only [consR]; split <;> simp
theorem runs_len : ∀ U : List Nat, (runsF U).length ≤ U.length
  | [] => Nat.le_refl _
  | u :: l => by
    have h1 := consR_len u (runsF l)
    have h2 := runs_len l
    rw [runsF, List.length_cons]; omega
/-- All that runs tell is of the list. -/
theorem snocR_all {p : Nat → Prop} (v : Nat) (hv : p v) : ∀ r : List (Nat × Nat), (∀ x ∈ r, p x.1 ∧ p x.2) → ∀ x ∈ snocR r v, p x.1 ∧ p x.2
  | [], _, x, hx => by simp only [snocR, List.mem_singleton] at hx; subst hx; exact ⟨hv, hv⟩
  | [(a, b)], h, x, hx => by
    have := h (a, b) (List.mem_singleton.2 rfl)
    simp only [snocR] at hx
    split at hx
    · simp only [List.mem_singleton] at hx; subst hx; exact ⟨this.1, hv⟩
    · simp only [List.mem_cons, List.not_mem_nil, or_false] at hx
      rcases hx with rfl | rfl
      · exact this
      · exact ⟨hv, hv⟩
  | y :: q :: r, h, x, hx => by
    simp only [snocR, List.mem_cons] at hx
    rcases hx with rfl | hx
    · exact h _ (List.mem_cons_self ..)
    · exact snocR_all v hv (q :: r) (fun z hz => h z (List.mem_cons_of_mem _ hz)) x (by simpa using hx)
theorem runs_all {p : Nat → Prop} (U : List Nat) (h : ∀ v ∈ U, p v) : ∀ x ∈ runsF U, p x.1 ∧ p x.2 := by
  refine snocI (p := fun U => (∀ v ∈ U, p v) → ∀ x ∈ runsF U, p x.1 ∧ p x.2) (fun _ x hx => by cases hx) (fun l b ih h => ?_) U h
  rw [runs_snoc]
  exact snocR_all b (h b (by simp)) _ (ih fun v hv => h v (List.mem_append_left _ hv))
/-- The last vendor; nought: none. -/
def lastOf (U : List Nat) : Nat := U.getLast?.getD 0
/-! ### The bits of a run, of runs, of vendors -/
def sizeR (p : Nat × Nat) : Nat := if p.1 = p.2 then 7 else 13
def runBits (p : Nat × Nat) : List Nat := (!decide (p.1 = p.2)).toNat :: (bitsOf p.1 6 ++ if p.1 = p.2 then [] else bitsOf p.2 6)
theorem runBits_len (p : Nat × Nat) : (runBits p).length = sizeR p := by
  unfold runBits sizeR
  split <;> simp [bitsOf_len]
def sizes (r : List (Nat × Nat)) : Nat := r.foldl (fun n p => n + sizeR p) 0
theorem sizes_snoc (r : List (Nat × Nat)) (p : Nat × Nat) : sizes (r ++ [p]) = sizes r + sizeR p := by unfold sizes; rw [List.foldl_append]; rfl
def runsBits (r : List (Nat × Nat)) : List Nat := r.flatMap runBits
theorem runsBits_snoc (r : List (Nat × Nat)) (p : Nat × Nat) : runsBits (r ++ [p]) = runsBits r ++ runBits p := by simp [runsBits]
theorem runsBits_len (r : List (Nat × Nat)) : (runsBits r).length = sizes r := by
  refine snocI (p := fun r => (runsBits r).length = sizes r) rfl (fun r p ih => ?_) r
  rw [runsBits_snoc, sizes_snoc, List.length_append, ih, runBits_len]
theorem toNat_bin (b : Bool) : b.toNat < 2 := by cases b <;> decide
theorem cons_bin {b : Nat} {l : List Nat} (h : b < 2) (hl : Bin l) : Bin (b :: l) := fun x hx => by
  rcases List.mem_cons.1 hx with rfl | hx
  · exact h
  · exact hl x hx
theorem runBits_bin (p : Nat × Nat) : Bin (runBits p) := by
  unfold runBits
  refine cons_bin (toNat_bin _) ((bitsOf_bin _ _).app ?_)
  split
  · exact bin_nil
  · exact bitsOf_bin _ _
theorem runsBits_bin (r : List (Nat × Nat)) : Bin (runsBits r) := fun b hb => by
  obtain ⟨p, _, hp⟩ := List.mem_flatMap.1 hb
  exact runBits_bin p b hp
/-- A bit for each vendor up to n. -/
def eachBit (U : List Nat) (n : Nat) : List Nat := (List.range n).map fun i => (U.contains (i + 1)).toNat
theorem eachBit_len (U : List Nat) (n : Nat) : (eachBit U n).length = n := by simp [eachBit]
theorem eachBit_bin (U : List Nat) (n : Nat) : Bin (eachBit U n) := fun b hb => by
  obtain ⟨i, _, rfl⟩ := List.mem_map.1 hb
  exact toNat_bin _
def byRuns (U : List Nat) : List Nat := 1 :: (bitsOf (runsF U).length 6 ++ runsBits (runsF U))
def byEach (U : List Nat) : List Nat := 0 :: eachBit U (lastOf U)
/-- Shorter by runs? -/
def short (U : List Nat) : Bool := decide (6 + sizes (runsF U) < lastOf U)
def vendBits (U : List Nat) : List Nat := bif short U then byRuns U else byEach U
theorem byRuns_len (U : List Nat) : (byRuns U).length = 7 + sizes (runsF U) := by simp [byRuns, bitsOf_len, runsBits_len]; omega
theorem byEach_len (U : List Nat) : (byEach U).length = 1 + lastOf U := by simp [byEach, eachBit_len]; omega
theorem vendBits_len (U : List Nat) : (vendBits U).length ≤ 1 + lastOf U := by
  unfold vendBits
  cases h : short U with
  | false => rw [cond_false, byEach_len]; exact Nat.le_refl _
  | true =>
    rw [cond_true, byRuns_len]
    unfold short at h
    have := of_decide_eq_true h
    omega
theorem vendBits_bin (U : List Nat) : Bin (vendBits U) := by
  unfold vendBits
  cases short U with
  | true => exact cons_bin (by decide) ((bitsOf_bin _ _).app (runsBits_bin _))
  | false => exact cons_bin (by decide) (eachBit_bin _ _)
def purpBits (P : Nat → Bool) (n : Nat) : List Nat := (List.range n).map fun i => (P i).toNat
theorem purpBits_len (P : Nat → Bool) (n : Nat) : (purpBits P n).length = n := by simp [purpBits]
theorem purpBits_bin (P : Nat → Bool) (n : Nat) : Bin (purpBits P n) := fun b hb => by
  obtain ⟨i, _, rfl⟩ := List.mem_map.1 hb
  exact toNat_bin _
def headBits (g : Nat) (P : Nat → Bool) (U : List Nat) : List Nat := bitsOf 1 6 ++ bitsOf g 36 ++ purpBits P 10 ++ bitsOf (lastOf U) 6
def conBits (g : Nat) (P : Nat → Bool) (U : List Nat) : List Nat := headBits g P U ++ vendBits U
theorem headBits_len (g : Nat) (P : Nat → Bool) (U : List Nat) : (headBits g P U).length = 58 := by simp [headBits, bitsOf_len, purpBits_len]
theorem headBits_bin (g : Nat) (P : Nat → Bool) (U : List Nat) : Bin (headBits g P U) := (((bitsOf_bin _ _).app (bitsOf_bin _ _)).app (purpBits_bin _ _)).app (bitsOf_bin _ _)
theorem conBits_bin (g : Nat) (P : Nat → Bool) (U : List Nat) : Bin (conBits g P U) := (headBits_bin g P U).app (vendBits_bin U)
theorem conBits_len (g : Nat) (P : Nat → Bool) (U : List Nat) : (conBits g P U).length ≤ 59 + lastOf U := by
  unfold conBits
  rw [List.length_append, headBits_len]
  have := vendBits_len U
  omega
/-- Bits as bytes. -/
def packT (l : List Nat) : List UInt8 := (packB l).map UInt8.ofNat
theorem packT_len (l : List Nat) : (packT l).length = (l.length + 7) / 8 := by simp [packT, packB_len]
/-- A consent's text. -/
def conText (g : Nat) (P : Nat → Bool) (U : List Nat) : List UInt8 := enc6 (tbits (packT (conBits g P U)))

/-! ### Right vendors -/
def RightN (U : List Nat) : Prop := U.Pairwise (· < ·) ∧ ∀ v ∈ U, 1 ≤ v ∧ v ≤ 40
theorem lastOf_le {U : List Nat} (h : RightN U) : lastOf U ≤ 40 := by
  unfold lastOf
  cases hl : U.getLast? with
  | none => simp
  | some v => exact (h.2 v (List.mem_of_getLast? hl)).2
theorem right_len : ∀ (U : List Nat) (a : Nat), U.Pairwise (· < ·) → (∀ v ∈ U, a ≤ v ∧ v ≤ 40) → a ≤ 41 → U.length + a ≤ 41
  | [], a, _, _, ha => by simp only [List.length_nil]; omega
  | u :: l, a, h, hr, _ => by
    obtain ⟨h1, h2⟩ := List.pairwise_cons.1 h
    have hu := hr u (List.mem_cons_self ..)
    have := right_len l (u + 1) h2 (fun v hv => ⟨h1 v hv, (hr v (List.mem_cons_of_mem _ hv)).2⟩) (by omega)
    rw [List.length_cons]; omega
theorem right_few {U : List Nat} (h : RightN U) : U.length ≤ 40 := by
  have := right_len U 1 h.1 h.2 (by omega)
  omega
theorem lastOf_mem (x : Nat) (l : List Nat) : lastOf (x :: l) ∈ x :: l := by
  unfold lastOf
  cases h : (x :: l).getLast? with
  | none => simp at h
  | some v => exact List.mem_of_getLast? h
theorem lastOf_cons (u x : Nat) (l : List Nat) : lastOf (u :: x :: l) = lastOf (x :: l) := by
  unfold lastOf; rw [List.getLast?_cons_cons]
/-! ### The document's runs -/
def endF (U : List Nat) : Nat → Nat → Nat
  | 0, e => e
  | n + 1, e => if U.contains (e + 1) then endF U n (e + 1) else e
def begR (U : List Nat) (v : Nat) : List (Nat × Nat) := if U.contains v && !U.contains (v - 1) then [(v, endF U 41 v)] else []
def docRuns (U : List Nat) (n : Nat) : List (Nat × Nat) := (List.range' 1 n).flatMap (begR U)
end Go.Proofs.YtpffdbplcgmilaaGreatDoor.ConP
namespace Go.Proofs.YtpffdbplcgmilaaGreatDoor.ConQ
open BitsP SixtyP SixtyQ ConP

def spanV (a b : Nat) : List Nat := List.range' a (b + 1 - a)
def runsP : Nat → List Nat → Option (List Nat)
  | 0, _ => some []
  | n + 1, l => if l.length < 7 then none
    else if num (l.take 1) = 1 then (if l.length < 13 then none else (runsP n (l.drop 13)).map (spanV (num ((l.drop 1).take 6)) (num ((l.drop 7).take 6)) ++ ·))
    else (runsP n (l.drop 7)).map (spanV (num ((l.drop 1).take 6)) (num ((l.drop 1).take 6)) ++ ·)
def eachP (n : Nat) (l : List Nat) : List Nat := ((List.range n).filter fun i => decide (l.getD i 0 = 1)).map (· + 1)
/-- Vendors of the bits behind 'last'. -/
def vendsP (last : Nat) (l : List Nat) : Option (List Nat) :=
  if num (l.take 1) = 1 then (if l.length < 7 then none else runsP (num ((l.drop 1).take 6)) (l.drop 7))
  else if l.length < 1 + last then none else some (eachP last (l.drop 1))
def given (l : List Nat) : Nat := num ((l.drop 6).take 36)
def purp (l : List Nat) (i : Nat) : Bool := decide (num ((l.drop (42 + i)).take 1) = 1)
def lastP (l : List Nat) : Nat := num ((l.drop 52).take 6)
def vends (l : List Nat) : Option (List Nat) := vendsP (lastP l) (l.drop 58)
/-- The fault of bits; nought: none. -/
def codeP (l : List Nat) : Nat := if l.length < 6 then 5 else if num (l.take 6) ≠ 1 then 7 else if l.length < 59 then 5 else match vends l with
  | none => 5
  | some _ => 0
abbrev Rd := Nat × (Nat → Bool) × List Nat × Nat
def noRd (c : Nat) : Rd := (0, fun _ => false, [], c)
abbrev toI (U : List Nat) : List Int := U.map fun n : Nat => (n : Int)
def readL (t : List UInt8) (l : List Nat) (U : List Nat) : Rd := if GrantP.check (given l : Int) (toI U) = 0 ∧ conText (given l) (purp l) U = t then (given l, purp l, U, 0) else noRd 1
def readC (t : List UInt8) : Rd :=
  if (readF t).2 ≠ 0 then noRd (readF t).2
  else if codeP (tbits (readF t).1) ≠ 0 then noRd (codeP (tbits (readF t).1))
  else readL t (tbits (readF t).1) ((vends (tbits (readF t).1)).getD [])

/-! ### Right ones -/
theorem right_toI {U : List Nat} : GrantP.Right (toI U) ↔ RightN U := by
  unfold GrantP.Right RightN
  rw [List.pairwise_map]
  constructor
  · rintro ⟨h1, h2⟩
    exact ⟨h1.imp fun h => by omega, fun v hv => by have := h2 (v : Int) (List.mem_map.2 ⟨v, hv, rfl⟩); omega⟩
  · rintro ⟨h1, h2⟩
    refine ⟨h1.imp fun h => by omega, fun v hv => ?_⟩
    obtain ⟨n, hn, rfl⟩ := List.mem_map.1 hv
    have := h2 n hn
    omega
theorem check_iff {g : Int} {L : List Int} : GrantP.check g L = 0 ↔ (0 ≤ g ∧ g ≤ 68719476735) ∧ GrantP.Right L := by
  unfold GrantP.check GrantP.codeG
  by_cases h : g < 0 ∨ 68719476735 < g
  · rw [if_pos h, if_neg (by decide)]
    constructor
    · intro h; cases h
    · intro h; omega
  · rw [if_neg h, if_pos rfl]
    constructor
    · intro h2; exact ⟨by omega, GrantP.right_of h2⟩
    · intro h2; exact GrantP.of_right h2.2
theorem right_nat {L : List Int} (h : GrantP.Right L) : ∃ U, L = toI U ∧ RightN U := by
  have e : L = toI (L.map Int.toNat) := by
    unfold toI
    rw [List.map_map]
    conv => lhs; rw [← List.map_id L]
    refine List.map_congr_left fun v hv => ?_
    have := h.2 v hv
    simp only [id, Function.comp]
    omega
  exact ⟨_, e, right_toI.1 (e ▸ h)⟩
/-- A right consent is one of natural numbers. -/
theorem check_nat {g : Int} {L : List Int} (h : GrantP.check g L = 0) : ∃ (n : Nat) (U : List Nat), g = (n : Int) ∧ L = toI U ∧ n ≤ 68719476735 ∧ RightN U := by
  obtain ⟨h1, h2⟩ := check_iff.1 h
  obtain ⟨U, e, hU⟩ := right_nat h2
  exact ⟨g.toNat, U, by omega, e, by omega, hU⟩
theorem nat_check {n : Nat} {U : List Nat} (h1 : n ≤ 68719476735) (h2 : RightN U) : GrantP.check (n : Int) (toI U) = 0 := check_iff.2 ⟨by omega, right_toI.2 h2⟩

/-! ### What is written is read as it was -/
theorem ext_sorted : ∀ {a b : List Nat}, a.Pairwise (· < ·) → b.Pairwise (· < ·) → (∀ x, x ∈ a ↔ x ∈ b) → a = b
  | [], [], _, _, _ => rfl
  | [], y :: b, _, _, h => by have := (h y).2 List.mem_cons_self; cases this
  | x :: a, [], _, _, h => by have := (h x).1 List.mem_cons_self; cases this
  | x :: a, y :: b, ha, hb, h => by
    have ha' := List.pairwise_cons.1 ha
    have hb' := List.pairwise_cons.1 hb
    have e : x = y := by
      have h1 := (h x).1 List.mem_cons_self
      have h2 := (h y).2 List.mem_cons_self
      rcases List.mem_cons.1 h1 with e | h1
      · exact e
      · rcases List.mem_cons.1 h2 with e | h2
        · exact e.symm
        · have := hb'.1 x h1; have := ha'.1 y h2; omega
    subst e
    refine congrArg (x :: ·) (ext_sorted ha'.2 hb'.2 fun z => ?_)
    constructor
    · intro hz
      rcases List.mem_cons.1 ((h z).1 (List.mem_cons_of_mem _ hz)) with e | h1
      · subst e; have := ha'.1 z hz; omega
      · exact h1
    · intro hz
      rcases List.mem_cons.1 ((h z).2 (List.mem_cons_of_mem _ hz)) with e | h1
      · subst e; have := hb'.1 z hz; omega
      · exact h1
theorem each_back {U : List Nat} (hU : RightN U) (z : List Nat) : eachP (lastOf U) (eachBit U (lastOf U) ++ z) = U := by
  refine ext_sorted ?_ hU.1 fun x => ?_
  · unfold eachP
    rw [List.pairwise_map]
    exact (List.pairwise_lt_range.filter _).imp fun h => by omega
  · have bit : ∀ i, i < lastOf U → (eachBit U (lastOf U) ++ z).getD i 0 = (U.contains (i + 1)).toNat := fun i hi => by
      rw [List.getD_eq_getElem?_getD, List.getElem?_append_left (by rw [eachBit_len]; exact hi)]
      simp [eachBit, hi]
    unfold eachP
    rw [List.mem_map]
    constructor
    · rintro ⟨i, hi, rfl⟩
      obtain ⟨h1, h2⟩ := List.mem_filter.1 hi
      rw [List.mem_range] at h1
      have h3 := of_decide_eq_true h2
      rw [bit i h1] at h3
      rw [← List.contains_iff_mem]
      cases hc : U.contains (i + 1) with
      | true => rfl
      | false => rw [hc] at h3; cases h3
    · intro hx
      have h1 := hU.2 x hx
      have h2 : x ≤ lastOf U := by
        have key : ∀ (U : List Nat), U.Pairwise (· < ·) → ∀ x ∈ U, x ≤ lastOf U := by
          intro U
          induction U with
          | nil => intro _ x hx; cases hx
          | cons u l ih =>
            intro hp x hx
            obtain ⟨p1, p2⟩ := List.pairwise_cons.1 hp
            cases l with
            | nil => rw [List.mem_singleton.1 hx]; simp [lastOf]
            | cons y l =>
              rw [lastOf_cons]
              rcases List.mem_cons.1 hx with rfl | hx
              · have := p1 _ (lastOf_mem y l); omega
              · exact ih p2 x hx
        exact key U hU.1 x hx
      refine ⟨x - 1, List.mem_filter.2 ⟨List.mem_range.2 (by omega), ?_⟩, by omega⟩
      rw [bit (x - 1) (by omega), show x - 1 + 1 = x from by omega, show U.contains x = true from by simpa using hx]
      rfl
theorem runs_le : ∀ U : List Nat, ∀ x ∈ runsF U, x.1 ≤ x.2
  | [], x, hx => by cases hx
  | u :: l, x, hx => by
    have ih := runs_le l
    rw [runsF] at hx
    cases hr : runsF l with
    | nil => rw [hr] at hx; simp only [consR, List.mem_singleton] at hx; subst hx; exact Nat.le_refl _
    | cons p r =>
      obtain ⟨a, b⟩ := p
      rw [hr] at hx ih
      have hab : a ≤ b := ih (a, b) (List.mem_cons_self ..)
      simp only [consR] at hx
      split at hx
      · rcases List.mem_cons.1 hx with rfl | hx
        · show u ≤ b; omega
        · exact ih x (List.mem_cons_of_mem _ hx)
      · rcases List.mem_cons.1 hx with rfl | hx
        · exact Nat.le_refl _
        · exact ih x hx
def spans (r : List (Nat × Nat)) : List Nat := r.flatMap fun p => spanV p.1 p.2
theorem spans_runs : ∀ U : List Nat, spans (runsF U) = U
  | [] => rfl
  | u :: l => by
    have ih := spans_runs l
    have hle := runs_le l
    rw [runsF]
    cases hr : runsF l with
    | nil =>
      rw [hr] at ih
      have : l = [] := ih.symm
      subst this
      simp [consR, spans, spanV, List.range'_succ]
    | cons p r =>
      obtain ⟨a, b⟩ := p
      rw [hr] at ih hle
      have hab : a ≤ b := hle (a, b) (List.mem_cons_self ..)
      simp only [consR]
      split
      · rename_i e
        rw [← ih]
        simp only [spans, List.flatMap_cons, spanV]
        rw [show b + 1 - u = (b + 1 - a) + 1 from by omega, List.range'_succ, List.cons_append, e]
      · rw [← ih]
        simp only [spans, List.flatMap_cons, spanV]
        rw [show u + 1 - u = 0 + 1 from by omega, List.range'_succ]
        rfl
theorem num6 {n : Nat} (h : n < 64) : num (bitsOf n 6) = n := by rw [num_bitsOf]; exact Nat.mod_eq_of_lt (by simpa using h)
theorem runs_back (z : List Nat) : ∀ r : List (Nat × Nat), (∀ x ∈ r, x.1 < 64 ∧ x.2 < 64) → runsP r.length (runsBits r ++ z) = some (spans r)
  | [], _ => rfl
  | p :: r, h => by
    have ih := runs_back z r fun x hx => h x (List.mem_cons_of_mem _ hx)
    obtain ⟨h1, h2⟩ := h p (List.mem_cons_self ..)
    have l1 := bitsOf_len p.1 6
    have l2 := bitsOf_len p.2 6
    have e : runsBits (p :: r) ++ z = runBits p ++ (runsBits r ++ z) := by simp [runsBits]
    rw [e, List.length_cons, runsP]
    unfold runBits
    by_cases hp : p.1 = p.2
    · have hn : (!decide (p.1 = p.2)).toNat = 0 := by rw [decide_eq_true hp]; rfl
      rw [if_pos hp, List.append_nil, hn, if_neg (by rw [List.length_append, List.length_cons, l1]; omega), if_neg (by simp [num])]
      have e1 : (0 :: bitsOf p.1 6 ++ (runsBits r ++ z)).drop 7 = runsBits r ++ z := by
        rw [List.cons_append, List.drop_succ_cons, List.drop_left' l1]
      have e2 : ((0 :: bitsOf p.1 6 ++ (runsBits r ++ z)).drop 1).take 6 = bitsOf p.1 6 := by
        rw [List.cons_append, List.drop_succ_cons, List.drop_zero, List.take_left' l1]
      rw [e1, e2, ih, num6 h1]
      simp [spans, hp]
    · have hn : (!decide (p.1 = p.2)).toNat = 1 := by rw [decide_eq_false hp]; rfl
      rw [if_neg hp, hn, if_neg (by simp [l1, l2]), if_pos (by simp [num]), if_neg (by simp [l1, l2]; omega)]
      have e1 : (1 :: (bitsOf p.1 6 ++ bitsOf p.2 6) ++ (runsBits r ++ z)).drop 13 = runsBits r ++ z := by
        rw [List.cons_append, List.drop_succ_cons, List.drop_left' (by rw [List.length_append, l1, l2])]
      have e2 : ((1 :: (bitsOf p.1 6 ++ bitsOf p.2 6) ++ (runsBits r ++ z)).drop 1).take 6 = bitsOf p.1 6 := by
        rw [List.cons_append, List.drop_succ_cons, List.drop_zero, List.append_assoc, List.take_left' l1]
      have e3 : ((1 :: (bitsOf p.1 6 ++ bitsOf p.2 6) ++ (runsBits r ++ z)).drop 7).take 6 = bitsOf p.2 6 := by
        rw [List.cons_append, List.drop_succ_cons, List.append_assoc, List.drop_left' l1, List.take_left' l2]
      rw [e1, e2, e3, ih, num6 h1, num6 h2]
      simp [spans]
theorem vends_back {U : List Nat} (hU : RightN U) (z : List Nat) : vendsP (lastOf U) (vendBits U ++ z) = some U := by
  unfold vendsP vendBits
  cases short U with
  | true =>
    have h6 := bitsOf_len (runsF U).length 6
    rw [cond_true, byRuns, if_pos (by simp [num]), if_neg (by simp [h6])]
    have e1 : ((1 :: (bitsOf (runsF U).length 6 ++ runsBits (runsF U)) ++ z).drop 1).take 6 = bitsOf (runsF U).length 6 := by
      rw [List.cons_append, List.drop_succ_cons, List.drop_zero, List.append_assoc, List.take_left' h6]
    have e2 : (1 :: (bitsOf (runsF U).length 6 ++ runsBits (runsF U)) ++ z).drop 7 = runsBits (runsF U) ++ z := by
      rw [List.cons_append, List.drop_succ_cons, List.append_assoc, List.drop_left' h6]
    have h7 := runs_len U
    have h8 := right_few hU
    rw [e1, e2, num6 (by omega), runs_back z _ (runs_all (p := (· < 64)) U fun v hv => by have := hU.2 v hv; show v < 64; omega), spans_runs]
  | false =>
    have hl := eachBit_len U (lastOf U)
    rw [cond_false, byEach, if_neg (by simp [num]), if_neg (by simp [hl]; omega)]
    rw [List.cons_append, List.drop_succ_cons, List.drop_zero, each_back hU]
theorem byteAt_bit {l : List Nat} (h : Bin l) (j r : Nat) (hr : r < 8) : byteAt l j / 2 ^ (7 - r) % 2 = l.getD (8 * j + r) 0 := by
  unfold byteAt
  have h0 := h.getD (8 * j); have h1 := h.getD (8 * j + 1); have h2 := h.getD (8 * j + 2); have h3 := h.getD (8 * j + 3)
  have h4 := h.getD (8 * j + 4); have h5 := h.getD (8 * j + 5); have h6 := h.getD (8 * j + 6); have h7 := h.getD (8 * j + 7)
  have hc : r = 0 ∨ r = 1 ∨ r = 2 ∨ r = 3 ∨ r = 4 ∨ r = 5 ∨ r = 6 ∨ r = 7 := by omega
  rcases hc with rfl | rfl | rfl | rfl | rfl | rfl | rfl | rfl <;> (try simp only [Nat.add_zero]) <;> omega
def pad (l : List Nat) : Nat := 8 * ((l.length + 7) / 8) - l.length
theorem tbits_pack {l : List Nat} (h : Bin l) : tbits (packT l) = l ++ List.replicate (pad l) 0 := by
  unfold packT
  have hlen : (tbits ((packB l).map UInt8.ofNat)).length = (l ++ List.replicate (pad l) 0).length := by
    rw [tbits_len]; simp [packB_len, pad]; omega
  apply List.ext_getElem hlen
  intro i h1 h2
  have hi : i < 8 * ((packB l).map UInt8.ofNat).length := by rw [← tbits_len]; exact h1
  have e := tbits_at _ i hi
  rw [List.getElem?_eq_getElem h1] at e
  have hq : i / 8 < (packB l).length := by simp at hi; omega
  have e2 : ((packB l).map UInt8.ofNat)[i / 8]'(by simpa using hq) = UInt8.ofNat (byteAt l (i / 8)) := by simp [packB]
  rw [Option.some.inj e, e2, UInt8.toNat_ofNat', Nat.mod_eq_of_lt (byteAt_lt h _), byteAt_bit h _ _ (by omega), Nat.div_add_mod]
  rw [List.getElem_append, List.getD_eq_getElem?_getD]
  by_cases hl : i < l.length
  · rw [dif_pos hl, List.getElem?_eq_getElem hl]; rfl
  · rw [dif_neg hl, List.getElem?_eq_none (by omega), List.getElem_replicate]; rfl
theorem purp_eq {P Q : Nat → Bool} (h : ∀ i, i < 10 → P i = Q i) : purpBits P 10 = purpBits Q 10 := List.map_congr_left fun i hi => by rw [h i (List.mem_range.1 hi)]
theorem conText_eq {g : Nat} {P Q : Nat → Bool} {U : List Nat} (h : ∀ i, i < 10 → P i = Q i) : conText g P U = conText g Q U := by
  unfold conText conBits headBits
  rw [purp_eq h]
section
variable {g : Nat} {P : Nat → Bool} {U : List Nat}
theorem parts_back (hg : g ≤ 68719476735) (hU : RightN U) (z : List Nat) : codeP (conBits g P U ++ z) = 0 ∧ given (conBits g P U ++ z) = g ∧ (∀ i, i < 10 → purp (conBits g P U ++ z) i = P i) ∧ vends (conBits g P U ++ z) = some U := by
  have l1 := bitsOf_len 1 6
  have l2 := bitsOf_len g 36
  have l3 := purpBits_len P 10
  have l4 := bitsOf_len (lastOf U) 6
  have hl40 := lastOf_le hU
  have e : conBits g P U ++ z = bitsOf 1 6 ++ (bitsOf g 36 ++ (purpBits P 10 ++ (bitsOf (lastOf U) 6 ++ (vendBits U ++ z)))) := by simp only [conBits, headBits, List.append_assoc]
  have d6 : (conBits g P U ++ z).drop 6 = bitsOf g 36 ++ (purpBits P 10 ++ (bitsOf (lastOf U) 6 ++ (vendBits U ++ z))) := by rw [e, List.drop_left' l1]
  have d42 : (conBits g P U ++ z).drop 42 = purpBits P 10 ++ (bitsOf (lastOf U) 6 ++ (vendBits U ++ z)) := by
    rw [show 42 = 6 + 36 from rfl, ← List.drop_drop, d6, List.drop_left' l2]
  have d52 : (conBits g P U ++ z).drop 52 = bitsOf (lastOf U) 6 ++ (vendBits U ++ z) := by
    rw [show 52 = 42 + 10 from rfl, ← List.drop_drop, d42, List.drop_left' l3]
  have d58 : (conBits g P U ++ z).drop 58 = vendBits U ++ z := by
    rw [show 58 = 52 + 6 from rfl, ← List.drop_drop, d52, List.drop_left' l4]
  have hlast : lastP (conBits g P U ++ z) = lastOf U := by
    unfold lastP
    rw [d52, List.take_left' l4, num6 (by omega)]
  have hv : vends (conBits g P U ++ z) = some U := by
    unfold vends
    rw [hlast, d58, vends_back hU]
  have hlen : 59 ≤ (conBits g P U ++ z).length := by
    unfold conBits
    rw [List.length_append, List.length_append, headBits_len]
    have : 1 ≤ (vendBits U).length := by
      unfold vendBits
      cases short U with
      | true => rw [cond_true, byRuns_len]; omega
      | false => rw [cond_false, byEach_len]; omega
    omega
  refine ⟨?_, ?_, ?_, hv⟩
  · unfold codeP
    have h6 : num ((conBits g P U ++ z).take 6) = 1 := by rw [e, List.take_left' l1]; decide
    rw [if_neg (by omega), if_neg (by rw [h6]; decide), if_neg (by omega), hv]
  · unfold given
    rw [d6, List.take_left' l2, num_bitsOf]
    exact Nat.mod_eq_of_lt (by simp; omega)
  · intro i hi
    unfold purp
    have e2 : (conBits g P U ++ z).drop (42 + i) = (purpBits P 10).drop i ++ (bitsOf (lastOf U) 6 ++ (vendBits U ++ z)) := by
      rw [← List.drop_drop, d42, List.drop_append_of_le_length (by omega)]
    have e3 : (purpBits P 10).drop i = (P i).toNat :: (purpBits P 10).drop (i + 1) := by
      have h : i < (purpBits P 10).length := by omega
      rw [List.drop_eq_getElem_cons h]
      congr 1
      simp [purpBits]
    rw [e2, e3, List.cons_append, List.take_succ_cons, List.take_zero]
    cases P i <;> rfl
/-- WHAT IS WRITTEN IS READ AS IT WAS. -/
theorem back (hg : g ≤ 68719476735) (hU : RightN U) : (readC (conText g P U)).1 = g ∧ (∀ i, i < 10 → (readC (conText g P U)).2.1 i = P i) ∧ (readC (conText g P U)).2.2.1 = U ∧ (readC (conText g P U)).2.2.2 = 0 := by
  have hlen : (packT (conBits g P U)).length ≤ 400 := by
    rw [packT_len]
    have := conBits_len g P U
    have := lastOf_le hU
    omega
  have hr := (read_write _ hlen).1
  obtain ⟨p1, p2, p3, p4⟩ := parts_back (P := P) hg hU (List.replicate (pad (conBits g P U)) 0)
  rw [← tbits_pack (conBits_bin g P U)] at p1 p2 p3 p4
  have e : readC (conText g P U) = (given (tbits (packT (conBits g P U))), purp (tbits (packT (conBits g P U))), U, 0) := by
    unfold readC
    rw [show readF (conText g P U) = (packT (conBits g P U), 0) from hr]
    dsimp only
    rw [if_neg (by simp), if_neg (by rw [p1]; simp), p4]
    unfold readL
    rw [Option.getD_some, if_pos ⟨by rw [p2]; exact nat_check hg hU, by rw [p2]; exact conText_eq p3⟩]
  rw [e]
  exact ⟨p2, p3, rfl, rfl⟩
end
end Go.Proofs.YtpffdbplcgmilaaGreatDoor.ConQ
end

section
namespace Go.Proofs.YtpffdbplcgmilaaGreatDoor.ConC
open Go.RowKit Mem Abs Scan BitsP ConP ConQ

abbrev natV (n : Nat) : V := .int .i64 (n : Int)
abbrev natsV (l : List Nat) : V := .fro (l.map natV)
abbrev intsV (L : List Int) : V := .fro (L.map (V.int .i64))
abbrev purV (P : Nat → Bool) : List V := [.bool (P 0), .bool (P 1), .bool (P 2), .bool (P 3), .bool (P 4), .bool (P 5), .bool (P 6), .bool (P 7), .bool (P 8), .bool (P 9)]
abbrev conI (g : Int) (P : Nat → Bool) (L : List Int) : V := .agg [.int .i64 g, .bool (P 0), .bool (P 1), .bool (P 2), .bool (P 3), .bool (P 4), .bool (P 5), .bool (P 6), .bool (P 7), .bool (P 8), .bool (P 9), intsV L]
abbrev conN (g : Nat) (P : Nat → Bool) (U : List Nat) : V := .agg [.int .i64 (g : Int), .bool (P 0), .bool (P 1), .bool (P 2), .bool (P 3), .bool (P 4), .bool (P 5), .bool (P 6), .bool (P 7), .bool (P 8), .bool (P 9), natsV U]
theorem ints_len {L : List Int} (h : (intsV L).Lim) : L.length ≤ 140737488355328 := by
  rw [intsV, V.Lim, List.length_map] at h
  exact h.1
theorem con_len {g : Int} {P : Nat → Bool} {L : List Int} (h : (conI g P L).Lim) : L.length ≤ 140737488355328 := by
  rw [conI, V.Lim] at h
  exact ints_len h.2.2.2.2.2.2.2.2.2.2.2.1
theorem at_map {α : Type} {f : α → V} {L : List α} {k : Nat} {x : α} (h : L[k]? = some x) : (L.map f)[k]? = some (f x) := by rw [List.getElem?_map, h]; rfl
theorem getD_at {L : List Int} {k : Nat} {x : Int} (h : L[k]? = some x) : L.getD k 0 = x := by rw [List.getD_eq_getElem?_getD, h]; rfl
set_option maxRecDepth 100000 in
set_option maxHeartbeats 4000000 in
theorem check_v {g : Int} {P : Nat → Bool} {L : List Int} : ACalls Tryz.prog 40 [conI g P L] (.int .i64 ((GrantP.check g L : Nat) : Int)) := ACalls.lim fun hl => by
  have hlen := con_len hl.1
  clear hl
  have hml : (L.map (V.int .i64)).length = L.length := List.length_map _
  unfold GrantP.check GrantP.codeG
  by_cases hg : g < 0 ∨ 68719476735 < g
  · rw [if_pos hg, if_neg (by decide)]
    refine fun1 tb_ok Tryz.func40 rfl Tryz.ntmps40 Tryz.results40 rfl fun N => ?_
    repeat' (first | refine zt ?_ | (refine isR ?_; first | refine zo ?_ | refine zA ?_ | refine zL ?_ | refine zc1 ?_ | refine zc2 ?_ | refine zc3 ?_ | refine zI ?_ | (refine zs1 ?_ ?_ <;> intro hc) | (refine zs2 ?_ ?_ <;> intro hc) | (refine zs3 ?_ ?_ <;> intro hc)) | refine awp_split rfl (fun hb => ?_) (fun hb => ?_) | refine zr ?_ | exact x_le)
    all_goals first | rfl | (exfalso; omega)
  · rw [if_neg hg, if_pos rfl]
    have hg1 : ¬ g < 0 := by omega
    have hg2 : ¬ 68719476735 < g := by omega
    refine fun1 tb_ok Tryz.func40 rfl Tryz.ntmps40 Tryz.results40 rfl fun N => ?_
    repeat' (first | refine zt ?_ | (refine isR ?_; first | refine zo ?_ | refine zA ?_ | refine zL ?_ | refine zc1 ?_ | refine zc2 ?_ | refine zc3 ?_ | refine zI ?_ | (refine zs1 ?_ ?_ <;> intro hc) | (refine zs2 ?_ ?_ <;> intro hc) | (refine zs3 ?_ ?_ <;> intro hc)) | refine awp_split rfl (fun hb => ?_) (fun hb => ?_) | refine zr ?_ | exact x_le)
    refine awp_for (fun k => ⟨[(1, .fp (V.cells (conI g P L)) 0), (14, intsV L), (15, .int .i64 ((L.map (V.int .i64)).length : Int)), (16, .int .i64 (k : Int))], [], 0, 42⟩) (fun k => k ≤ L.length ∧ scan (GrantP.codeV L) k = 0) L.length 0 (by exact x_le) ⟨Nat.zero_le _, rfl⟩ ?_
    rintro k ⟨hk, hs⟩
    by_cases hk2 : k < L.length
    · have hx : L[k]? = some L[k] := by simp [hk2]
      have hd := getD_at hx
      have hst := scan_stop (f := GrantP.codeV L) (k := k) (n := L.length) hs
      have hnx := scan_next (f := GrantP.codeV L) (k := k) hs
      generalize L[k] = x at *
      have hm := at_map (f := V.int .i64) hx
      by_cases h1 : x < 1 ∨ 40 < x
      · have hc : GrantP.codeV L k = 3 := by unfold GrantP.codeV; rw [hd, if_pos h1]
        rw [hst (by rw [hc]; decide) hk2, hc]
        repeat' (first | refine zt ?_ | (refine isR ?_; first | refine zo ?_ | refine zA ?_ | refine zL ?_ | refine zc1 ?_ | refine zc2 ?_ | refine zc3 ?_ | refine zI ?_ | (refine zs1 ?_ ?_ <;> intro hc) | (refine zs2 ?_ ?_ <;> intro hc) | (refine zs3 ?_ ?_ <;> intro hc)) | refine awp_split rfl (fun hb => ?_) (fun hb => ?_) | refine zr ?_ | exact x_le)
        all_goals first | rfl | (exfalso; omega)
      · have h2 : ¬ x < 1 := by omega
        have h3 : ¬ 40 < x := by omega
        rcases Nat.eq_zero_or_pos k with rfl | hk0
        · have hc : GrantP.codeV L 0 = 0 := by unfold GrantP.codeV; rw [hd, if_neg h1, if_neg (by omega)]
          have hn0 := hnx hc
          repeat' (first | refine zt ?_ | (refine isR ?_; first | refine zo ?_ | refine zA ?_ | refine zL ?_ | refine zc1 ?_ | refine zc2 ?_ | refine zc3 ?_ | refine zI ?_ | (refine zs1 ?_ ?_ <;> intro hc) | (refine zs2 ?_ ?_ <;> intro hc) | (refine zs3 ?_ ?_ <;> intro hc)) | refine awp_split rfl (fun hb => ?_) (fun hb => ?_) | refine zr ?_ | exact x_le)
          exact ⟨⟨by omega, hn0⟩, hk2, (by exact x_le)⟩
        · have hk1 : ((k : Int) - 1) = ((k - 1 : Nat) : Int) := by omega
          have hx' : L[k - 1]? = some (L[k - 1]'(by omega)) := by simp [show k - 1 < L.length by omega]
          have hd' := getD_at hx'
          generalize L[k - 1]'(by omega) = y at *
          have hm' := at_map (f := V.int .i64) hx'
          by_cases h4 : x ≤ y
          · have hc : GrantP.codeV L k = 4 := by unfold GrantP.codeV; rw [hd, hd', if_neg h1, if_pos ⟨hk0, h4⟩]
            rw [hst (by rw [hc]; decide) hk2, hc]
            repeat' (first | refine zt ?_ | (refine isR ?_; first | refine zo ?_ | refine zA ?_ | refine zL ?_ | refine zc1 ?_ | refine zc2 ?_ | refine zc3 ?_ | refine zI ?_ | (refine zs1 ?_ ?_ <;> intro hc) | (refine zs2 ?_ ?_ <;> intro hc) | (refine zs3 ?_ ?_ <;> intro hc)) | refine awp_split rfl (fun hb => ?_) (fun hb => ?_) | refine zr ?_ | exact x_le)
            all_goals first | rfl | (exfalso; omega)
          · have hc : GrantP.codeV L k = 0 := by unfold GrantP.codeV; rw [hd, hd', if_neg h1, if_neg (fun h => h4 h.2)]
            have hn0 := hnx hc
            repeat' (first | refine zt ?_ | (refine isR ?_; first | refine zo ?_ | refine zA ?_ | refine zL ?_ | refine zc1 ?_ | refine zc2 ?_ | refine zc3 ?_ | refine zI ?_ | (refine zs1 ?_ ?_ <;> intro hc) | (refine zs2 ?_ ?_ <;> intro hc) | (refine zs3 ?_ ?_ <;> intro hc)) | refine awp_split rfl (fun hb => ?_) (fun hb => ?_) | refine zr ?_ | exact x_le)
            exact ⟨⟨by omega, hn0⟩, hk2, (by exact x_le)⟩
    · obtain rfl : k = L.length := by omega
      rw [hs]
      repeat' (first | refine zt ?_ | (refine isR ?_; first | refine zo ?_ | refine zA ?_ | refine zL ?_ | refine zc1 ?_ | refine zc2 ?_ | refine zc3 ?_ | refine zI ?_ | (refine zs1 ?_ ?_ <;> intro hc) | (refine zs2 ?_ ?_ <;> intro hc) | (refine zs3 ?_ ?_ <;> intro hc)) | refine awp_split rfl (fun hb => ?_) (fun hb => ?_) | refine zr ?_ | exact x_le)
      all_goals first | rfl | (exfalso; omega)
/-- No consent: the nil one, and the empty one. -/
abbrev noC : V := .agg [.int .i64 0, .bool false, .bool false, .bool false, .bool false, .bool false, .bool false, .bool false, .bool false, .bool false, .bool false, .nils]
end Go.Proofs.YtpffdbplcgmilaaGreatDoor.ConC
end

section
namespace Go.Proofs.YtpffdbplcgmilaaGreatDoor.Abs
open Go.RowKit Mem Facts
section
variable {P : Program} {N : Env} {M : Nat → Prop} {o : Oper} {s : S} {a : Act} {x y : Operand} {w : World}
theorem law_min {t t' : TypeId} {m n q : Int} (ho : o.op = .call { callee := .builtin .min, args := #[x, y], argTypes := #[t, t'] }) (h : (if n < m then n else m) = q) (hq : InR .i64 q) : OpLaw P N o ⟨[(x, .int .i64 m), (y, .int .i64 n)], []⟩ (.int .i64 q) [] [] := law_pure fun s M A φ ac w hh hr => by
  refine ⟨.int .i64 q, ?_, .fz (.int hq)⟩
  unfold execOp
  simp only [ho, resolve, Sem.run_bind, Sem.run_pure, Result.andThen_ok, invoke, builtin, List.map_toArray, List.map_cons, List.map_nil, hr.int hh.a, hr.int hh.b]
  subst h
  simp [Builtin.min_, Builtin.min2]
end
section
variable {P : Program} {N : Env} {l r : List Oper} {o : Oper} {tm : List (Nat × V)} {st : List (Nat × Option Blk)} {nx nt : Nat} {tr : List Tr} {K : S → List Tr → Prop} {d : Nat} {t t' : TypeId} {x y : Operand} {a b : Int}
theorem x_min (q : Int) (k : ARun P N l K r ⟨(d, .int .i64 q) :: tm, st, nx, nt⟩ (tr ++ [trOf l o ⟨[(x, .int .i64 a), (y, .int .i64 b)], []⟩ []])) (ho : o.op = .call { callee := .builtin .min, args := #[x, y], argTypes := #[t, t'] } := by rfl) (hx : S.ev ⟨tm, st, nx, nt⟩ x = some (.int .i64 a) := by rfl) (hy : S.ev ⟨tm, st, nx, nt⟩ y = some (.int .i64 b) := by rfl) (hg : guardV l o ⟨tm, st, nx, nt⟩ = some true := by rfl) (hd : o.dst = some d := by rfl) (hlt : Nat.blt d nt = true := by rfl) (h : (if b < a then b else a) = q := by first | assumption | omega) (hq : -9223372036854775808 ≤ q ∧ q ≤ 9223372036854775807 := by omega) : ARun P N l K (o :: r) ⟨tm, st, nx, nt⟩ tr := r_val hg hd hlt (law_min ho h ⟨by simp only [rng]; omega, by simp only [rng]; omega⟩) (hT hx (hT hy h0)) k
end
end Go.Proofs.YtpffdbplcgmilaaGreatDoor.Abs
end
