/- Texts as lists of bytes; steps that split. Over any program. -/
import Derived.Test.YtefcfickggnmjaaDoorAbsH
import Derived.Test.YtefcfickggnmjaaDoorAbsK
import Derived.Test.YtefcfickggnmjaaDoorAbsY
import Derived.WideLaws
namespace Go.Proofs.YtefcfickggnmjaaDoor.Abs
open Go.RowKit Mem Facts

def str (l : List UInt8) : ByteArray := ⟨l.toArray⟩
abbrev strT (l : List UInt8) : V := .str (str l)
abbrev strsT (L : List (List UInt8)) : V := .fro (L.map strT)
abbrev byteT (c : UInt8) : V := .int .u8 (c.toNat : Int)
theorem str_data (s : ByteArray) : str s.data.toList = s := by apply ByteArray.ext; simp [str]
theorem str_toList (l : List UInt8) : (str l).data.toList = l := by simp [str]
theorem str_size (l : List UInt8) : (str l).size = l.length := by simp [str, ByteArray.size]
theorem str_inj {l m : List UInt8} : str l = str m ↔ l = m := ⟨fun h => by rw [← str_toList l, h, str_toList], fun h => by rw [h]⟩
theorem str_cat (l m : List UInt8) : str l ++ str m = str (l ++ m) := by apply ByteArray.ext; simp [str, ByteArray.data_append]
theorem str_slice (l : List UInt8) (a b : Nat) : (str l).extract a b = str ((l.take b).drop a) := by
  apply ByteArray.ext
  simp only [str, ByteArray.data_extract]
  apply Array.ext'
  simp [List.extract_eq_take_drop, List.drop_take]
theorem str_get {l : List UInt8} {i : Nat} {c : UInt8} (h : l[i]? = some c) : (str l)[i]? = some c := by
  obtain ⟨hi, e⟩ := List.getElem?_eq_some_iff.1 h
  rw [getElem?_pos (str l) i (by rw [str_size]; exact hi)]
  exact congrArg some e
theorem ty_strL {P : Program} {t : TypeId} {okS : Nat → Prop} {okL : TypeId → Nat → Prop} {n : Nat} {us : List V} (ht : P.underlying t = some .string) (h : Typed P okS okL n t us) : ∃ l : List UInt8, us = [strT l] ∧ okS l.length := by
  obtain ⟨s, h1, h2⟩ := ty_str ht h
  exact ⟨s.data.toList, by rw [h1, strT, str_data], by rw [← str_size, str_data]; exact h2⟩
section
variable {P : Program} {N : Env} {o : Oper} {tb : List Ty} {T : Nat} {e ee : Ty} {t t' : TypeId} {x y z : Operand} {l m : List UInt8} {r : Bool}
theorem law_eql_strL (ho : o.op = .binOp .eql t x y t') (h : decide (l = m) = r) : OpLaw P N o ⟨[(x, strT l), (y, strT m)], []⟩ (.bool r) [] [] := law_eql_str ho (by rw [← h]; simp only [str_inj])
theorem law_neq_strL (ho : o.op = .binOp .neq t x y t') (h : decide (l ≠ m) = r) : OpLaw P N o ⟨[(x, strT l), (y, strT m)], []⟩ (.bool r) [] [] := law_neq_str ho (by rw [← h]; simp only [ne_eq, str_inj])
theorem law_cat_L (ho : o.op = .binOp .add t x y t') (h : l.length + m.length ≤ SLIM) : OpLaw P N o ⟨[(x, strT l), (y, strT m)], []⟩ (strT (l ++ m)) [] [] := by
  have := law_cat (P := P) (N := N) (a := str l) (b := str m) ho (by rw [str_size, str_size]; exact h)
  rwa [str_cat] at this
theorem law_len_strL (ho : o.op = .call { callee := .builtin .len, args := #[x], argTypes := #[t] }) (ht : P.underlying t = some .string) : OpLaw P N o ⟨[(x, strT l)], []⟩ (.int .i64 l.length) [] [] := by
  have := law_len_str (P := P) (N := N) (a := str l) ho ht
  rwa [str_size] at this
theorem law_index_strL {k : IntKind} {i : Int} {c : UInt8} (htb : TbOk P tb) (ho : o.op = .index T x y) (hT : nth tb T = some e) (hk : e.knd = 2) (h0 : 0 ≤ i) (hv : l[i.toNat]? = some c) : OpLaw P N o ⟨[(x, strT l), (y, .int k i)], []⟩ (byteT c) [] [] := law_index_str htb ho hT hk h0 (str_get hv)
theorem law_slice_strL {k k' : IntKind} {a b : Int} (htb : TbOk P tb) (ho : o.op = .slice T x (some y) (some z) none) (hT : nth tb T = some e) (hk : e.knd = 2) (h0 : 0 ≤ a) (h1 : a ≤ b) (h2 : b ≤ l.length) : OpLaw P N o ⟨[(x, strT l), (y, .int k a), (z, .int k' b)], []⟩ (strT ((l.take b.toNat).drop a.toNat)) [] [] := by
  have := law_slice_str (P := P) (N := N) (s := str l) (k := k) (k' := k') htb ho hT hk h0 h1 (by rw [str_size]; exact h2)
  rwa [str_slice] at this
theorem law_slice_strL_from {k : IntKind} {a : Int} (htb : TbOk P tb) (ho : o.op = .slice T x (some y) none none) (hT : nth tb T = some e) (hk : e.knd = 2) (h0 : 0 ≤ a) (h1 : a ≤ l.length) : OpLaw P N o ⟨[(x, strT l), (y, .int k a)], []⟩ (strT (l.drop a.toNat)) [] [] := by
  have := law_slice_str_from (P := P) (N := N) (s := str l) (k := k) htb ho hT hk h0 (by rw [str_size]; exact h1)
  rwa [str_slice, str_size, List.take_length] at this
theorem law_slice_strL_to {k : IntKind} {b : Int} (htb : TbOk P tb) (ho : o.op = .slice T x none (some z) none) (hT : nth tb T = some e) (hk : e.knd = 2) (h0 : 0 ≤ b) (h2 : b ≤ l.length) : OpLaw P N o ⟨[(x, strT l), (z, .int k b)], []⟩ (strT (l.take b.toNat)) [] [] := by
  have := law_slice_str_to (P := P) (N := N) (s := str l) (k := k) htb ho hT hk h0 (by rw [str_size]; exact h2)
  rwa [str_slice, List.drop_zero] at this
theorem law_bytesL {src dst : TypeId} {el : Nat} {e' : Ty} (htb : TbOk P tb) (ho : o.op = .convert src dst x) (hS : nth tb src = some e) (hD : nth tb dst = some e') (hk : Nat.beq e.knd 2 = true) (hs : e'.sl = some el) (hE : nth tb el = some ee) (he : Nat.beq ee.knd 24 = true) (hl : l.length ≤ LIM) :
    OpLaw P N o ⟨[(x, strT l)], []⟩ (.fro (l.map byteT)) [] [] := by
  have := law_bytes (P := P) (N := N) (b := str l) htb ho hS hD hk hs hE he (by rw [str_size]; exact hl)
  rwa [str_toList] at this
end
/-! ### An interface held against nil -/
theorem rep_ifc {X A : Nat → Prop} {φ : Nat → Pl} {w : World} {t : TypeId} {v : V} {x : Value} (h : Rep X A φ w (.ifc t v) x) : ∃ u, x = .iface t u := by
  cases h with
  | fz h => cases h with
    | ifc h => exact ⟨_, rfl⟩
  | ifc h => exact ⟨_, rfl⟩
theorem rep_nili {X A : Nat → Prop} {φ : Nat → Pl} {w : World} {x : Value} (h : Rep X A φ w .nili x) : x = .nilIface := by
  cases h with
  | fz h => cases h; rfl
section
variable {P : Program} {N : Env} {o : Oper} {T T' t : TypeId} {x y : Operand} {v : V}
theorem law_neq_ifc (ho : o.op = .binOp .neq T x y T') (h : P.underlying T = some (.interface (P.methodsAt T))) : OpLaw P N o ⟨[(x, .ifc t v), (y, .nili)], []⟩ (.bool true) [] [] := law_pure fun s M A φ a w hh hr => by
  refine ⟨.bool true, ?_, .fz .bool⟩
  obtain ⟨u, hu⟩ := rep_ifc (hr.ev hh.a)
  have e := run_neq_held_nil w T t u h
  unfold execOp
  simp only [ho, hu, rep_nili (hr.ev hh.b), eqGuard]
  simp only [Sem.run_bind, Bool.not_true, Bool.false_eq_true, if_false, Sem.run_pure, Result.andThen_ok, e]
theorem law_eql_ifc (ho : o.op = .binOp .eql T x y T') (h : P.underlying T = some (.interface (P.methodsAt T))) : OpLaw P N o ⟨[(x, .ifc t v), (y, .nili)], []⟩ (.bool false) [] [] := law_pure fun s M A φ a w hh hr => by
  refine ⟨.bool false, ?_, .fz .bool⟩
  obtain ⟨u, hu⟩ := rep_ifc (hr.ev hh.a)
  have e := run_eql_held_nil w T t u h
  unfold execOp
  simp only [ho, hu, rep_nili (hr.ev hh.b), eqGuard]
  simp only [Sem.run_bind, Bool.not_true, Bool.false_eq_true, if_false, Sem.run_pure, Result.andThen_ok, e]
theorem law_neq_nili {c : Value} (ho : o.op = .binOp .neq T x (.const c) T') (h : P.underlying T = some (.interface (P.methodsAt T))) : OpLaw P N o ⟨[(x, .nili), (.const c, .nili)], []⟩ (.bool false) [] [] := law_pure fun s M A φ a w hh hr => by
  refine ⟨.bool false, ?_, .fz .bool⟩
  have e := run_neq_nil_nil w T h
  unfold execOp
  simp only [ho, rep_nili (hr.ev hh.a), rep_nili (hr.ev hh.b), eqGuard]
  simp only [Sem.run_bind, Bool.not_true, Bool.or_true, if_true, Bool.false_eq_true, if_false, Sem.run_pure, Result.andThen_ok, e]
theorem law_eql_nili {c : Value} (ho : o.op = .binOp .eql T x (.const c) T') (h : P.underlying T = some (.interface (P.methodsAt T))) : OpLaw P N o ⟨[(x, .nili), (.const c, .nili)], []⟩ (.bool true) [] [] := law_pure fun s M A φ a w hh hr => by
  refine ⟨.bool true, ?_, .fz .bool⟩
  have e := run_eql_nil_nil w T h
  unfold execOp
  simp only [ho, rep_nili (hr.ev hh.a), rep_nili (hr.ev hh.b), eqGuard]
  simp only [Sem.run_bind, Bool.not_true, Bool.or_true, if_true, Bool.false_eq_true, if_false, Sem.run_pure, Result.andThen_ok, e]
end
/-! ### Steps that split -/
/-- What an operation is, as a number. -/
def opK : Op → Nat
  | .move _ => 1 | .assign _ => 2 | .pick .. => 3
  | .binOp op .. => match op with
    | .add => 10 | .sub => 11 | .mul => 12 | .lss => 13 | .leq => 14 | .gtr => 15 | .geq => 16 | .eql => 17 | .neq => 18 | .quo => 19 | .rem => 20 | _ => 21
  | .call c => match c.callee with
    | .builtin .len => 25 | .builtin _ => 26 | .value _ => 27 | _ => 28
  | .alloc _ => 30 | .box .. => 31 | .build .. => 32 | .buildSlice .. => 33 | .load .. => 34 | .store .. => 35 | .nilCheck _ => 36 | .unOp .. => 37 | .convert .. => 38 | .makeInterface .. => 39
  | .makeFunc .. => 40 | .makeSlice .. => 41 | .slice .. => 42 | .fieldAddr .. => 43 | .field .. => 44 | .indexAddr .. => 45 | .index .. => 46 | .extract .. => 47 | .makeMap .. => 48 | .lookup .. => 49
  | .mapUpdate .. => 50 | .mapEntry .. => 51 | .entryStore .. => 52 | .range .. => 53 | .next .. => 54 | .entry _ => 55 | .typeAssert .. => 56
  | _ => 0
theorem isK {P : Program} {N : Env} {l r : List Oper} {o : Oper} {s : S} {tr : List Tr} {K : S → List Tr → Prop} {k : Nat} (_ : opK o.op = k) (g : ARun P N l K (o :: r) s tr) : ARun P N l K (o :: r) s tr := g
theorem isR {P : Program} {N : Env} {l r : List Oper} {s : S} {tr : List Tr} {K : S → List Tr → Prop} (g : ARun P N l K r s tr) : ARun P N l K r s tr := g
theorem isW {P : Program} {N : Env} {c : Code} {Q : Exit → S → Prop} {s : S} (g : AWp P N c Q s) : AWp P N c Q s := g
section
variable {P : Program} {N : Env} {l r : List Oper} {o : Oper} {tm : List (Nat × V)} {st : List (Nat × Option Blk)} {nx nt : Nat} {tr : List Tr} {K : S → List Tr → Prop} {fp : Fp} {s : S} {Q : Exit → S → Prop} {x y : Code}
theorem r_splitP {d : Nat} {p : Prop} [Decidable p] (hg : guardV l o ⟨tm, st, nx, nt⟩ = some true) (hd : o.dst = some d) (hlt : Nat.blt d nt = true) (law : ∀ r, decide p = r → OpLaw P N o fp (.bool r) [] []) (hh : Holds fp ⟨tm, st, nx, nt⟩) (k1 : p → ARun P N l K r ⟨(d, .bool true) :: tm, st, nx, nt⟩ (tr ++ [trOf l o fp []])) (k2 : ¬ p → ARun P N l K r ⟨(d, .bool false) :: tm, st, nx, nt⟩ (tr ++ [trOf l o fp []])) : ARun P N l K (o :: r) ⟨tm, st, nx, nt⟩ tr := by
  by_cases h : p
  · exact r_val hg hd hlt (law true (decide_eq_true h)) hh (k1 h)
  · exact r_val hg hd hlt (law false (decide_eq_false h)) hh (k2 h)
theorem r_splitB {d : Nat} {b : Bool} (hg : guardV l o ⟨tm, st, nx, nt⟩ = some true) (hd : o.dst = some d) (hlt : Nat.blt d nt = true) (law : OpLaw P N o fp (.bool b) [] []) (hh : Holds fp ⟨tm, st, nx, nt⟩) (k1 : b = true → ARun P N l K r ⟨(d, .bool true) :: tm, st, nx, nt⟩ (tr ++ [trOf l o fp []])) (k2 : b = false → ARun P N l K r ⟨(d, .bool false) :: tm, st, nx, nt⟩ (tr ++ [trOf l o fp []])) : ARun P N l K (o :: r) ⟨tm, st, nx, nt⟩ tr := by
  cases b with
  | true => exact r_val hg hd hlt law hh (k1 rfl)
  | false => exact r_val hg hd hlt law hh (k2 rfl)
theorem awp_split {c : Operand} {b : Bool} (hc : s.ev c = some (.bool b)) (k1 : b = true → AWp P N x Q s) (k2 : b = false → AWp P N y Q s) : AWp P N (.cond c x y) Q s := by
  refine awp_cond hc ?_
  cases b with
  | true => exact k1 rfl
  | false => exact k2 rfl
theorem ARun.as {v v' : V} {d : Nat} (e : v = v') (k : ARun P N l K r ⟨(d, v') :: tm, st, nx, nt⟩ tr) : ARun P N l K r ⟨(d, v) :: tm, st, nx, nt⟩ tr := e ▸ k
end
end Go.Proofs.YtefcfickggnmjaaDoor.Abs
