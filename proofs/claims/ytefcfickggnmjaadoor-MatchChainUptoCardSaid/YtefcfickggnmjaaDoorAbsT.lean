/- What a program's types are, as a table that is held against the program once. Over any program. -/
import Derived.Test.YtefcfickggnmjaaDoorAbsO
namespace Go.Proofs.YtefcfickggnmjaaDoor.Abs
open Go.RowKit Mem Facts

/-- What a zero cell is. -/
inductive Zc where
  | int (k : IntKind)
  | bool | str | ptr | slice | map | func | iface
  deriving DecidableEq
def Zc.v : Zc → V
  | .int k => .int k 0
  | .bool => .bool false
  | .str => .str ⟨#[]⟩
  | .ptr => .nilp
  | .slice => .nils
  | .map => .nilm
  | .func => .nilf
  | .iface => .nili
def Zc.val : Zc → Value
  | .int k => .int k 0
  | .bool => .bool false
  | .str => .string ⟨#[]⟩
  | .ptr => .pointer none
  | .slice => .slice none 0 0
  | .map => .map none
  | .func => .nilFunc
  | .iface => .nilIface
/-- A type: aggregate or not, cells, bytes, fields (place, type), array (length, element), slice's element, its zero cells, what it is (1 bool, 2 text, 20.. a number by its kind, 4 map, 5 pointer, 6 function, 7 interface, 8 slice, 9 struct, 10 array), a map's key and element. -/
structure Ty where
  agg : Bool
  size : Nat
  bytes : Nat
  flds : List (Nat × Nat)
  arr : Option (Nat × Nat)
  sl : Option Nat
  zero : List Zc
  knd : Nat
  mp : Option (Nat × Nat)
def kcode : IntKind → Nat
  | .i8 => 20 | .i16 => 21 | .i32 => 22 | .i64 => 23 | .u8 => 24 | .u16 => 25 | .u32 => 26 | .u64 => 27
def kindOf : TypeDesc → Nat
  | .bool => 1 | .string => 2 | .int k => kcode k | .map _ _ => 4 | .pointer _ => 5 | .func _ _ _ => 6 | .interface _ => 7 | .slice _ => 8 | .struct _ => 9 | .array _ _ => 10
  | _ => 0
theorem kcode_inj {k k' : IntKind} (h : kcode k = kcode k') : k = k' := by cases k <;> cases k' <;> first | rfl | (simp [kcode] at h)
theorem kind_int {d : TypeDesc} {k : IntKind} (h : kcode k = kindOf d) : d = .int k := by
  cases d <;> first
    | (rename_i k'; simp only [kindOf] at h; rw [kcode_inj h])
    | (cases k <;> simp [kcode, kindOf] at h)
theorem kcode_ge (k : IntKind) : 20 ≤ kcode k := by cases k <;> simp [kcode]
theorem kind_str {d : TypeDesc} (h : 2 = kindOf d) : d = .string := by
  cases d <;> first | rfl | (simp [kindOf] at h; done) | (rename_i k; have := kcode_ge k; simp only [kindOf] at h; omega)
theorem kind_bool {d : TypeDesc} (h : 1 = kindOf d) : d = .bool := by
  cases d <;> first | rfl | (simp [kindOf] at h; done) | (rename_i k; have := kcode_ge k; simp only [kindOf] at h; omega)
theorem kind_struct {d : TypeDesc} (h : 9 = kindOf d) : ∃ fs, d = .struct fs := by
  cases d <;> first | exact ⟨_, rfl⟩ | (simp [kindOf] at h; done) | (rename_i k; have := kcode_ge k; simp only [kindOf] at h; omega)
def zcOk : Zc → Value → Bool
  | .int k, .int k' n => k == k' && n == 0
  | .bool, .bool b => !b
  | .str, .string s => s.size == 0
  | .ptr, .pointer none => true
  | .slice, .slice none 0 0 => true
  | .map, .map none => true
  | .func, .nilFunc => true
  | .iface, .nilIface => true
  | _, _ => false
def zerosOk : List Zc → List Value → Bool
  | [], [] => true
  | z :: r, v :: q => zcOk z v && zerosOk r q
  | _, _ => false
def isAggV : Value → Bool
  | .agg _ => true
  | _ => false
def aggOf : TypeDesc → Bool
  | .struct _ | .array _ _ => true
  | _ => false
def fldsOf : TypeDesc → List (Nat × Nat)
  | .struct fs => fs.toList.map fun f => (f.offset, f.type)
  | _ => []
def arrOf : TypeDesc → Option (Nat × Nat)
  | .array n t => some (n, t)
  | _ => none
def slOf : TypeDesc → Option Nat
  | .slice t => some t
  | _ => none
def mpOf : TypeDesc → Option (Nat × Nat)
  | .map k t => some (k, t)
  | _ => none
def okTy (P : Program) (T : Nat) (e : Ty) : Bool := match P.info? T, P.underlying T with
  | some i, some d => e.size == i.size && e.bytes == i.bytes && e.knd == kindOf d && e.agg == aggOf d && e.flds == fldsOf d && e.arr == arrOf d && e.sl == slOf d && e.mp == mpOf d &&
    (e.zero.isEmpty || match i.zero with | some z => isAggV z == e.agg && zerosOk e.zero z.cells.toList | none => false)
  | _, _ => false
def okAll (P : Program) : List Ty → Nat → Bool
  | [], _ => true
  | e :: r, n => okTy P n e && okAll P r (n + 1)
def TbOk (P : Program) (tb : List Ty) : Prop := okAll P tb 0 = true
section
variable {P : Program} {tb : List Ty} {T : Nat} {e : Ty}
theorem ok_at : ∀ {tb : List Ty} {n T : Nat} {e : Ty}, okAll P tb n = true → nth tb T = some e → okTy P (n + T) e = true
  | [], _, _, _, _, h => by simp [nth] at h
  | x :: r, n, 0, e, h, hn => by
    rw [okAll, Bool.and_eq_true] at h
    rw [nth] at hn; cases hn; exact h.1
  | x :: r, n, T + 1, e, h, hn => by
    rw [okAll, Bool.and_eq_true] at h
    rw [nth] at hn
    have := ok_at h.2 hn
    rwa [show n + 1 + T = n + (T + 1) from by omega] at this
structure TyIs (P : Program) (T : Nat) (e : Ty) (i : TypeInfo) (d : TypeDesc) : Prop where
  info : P.info? T = some i
  und : P.underlying T = some d
  size : i.size = e.size
  bytes : i.bytes = e.bytes
  knd : e.knd = kindOf d
  agg : e.agg = aggOf d
  flds : e.flds = fldsOf d
  arr : e.arr = arrOf d
  sl : e.sl = slOf d
  mp : e.mp = mpOf d
  zero : e.zero = [] ∨ ∃ z, i.zero = some z ∧ isAggV z = e.agg ∧ zerosOk e.zero z.cells.toList = true
theorem ty_at (ht : TbOk P tb) (h : nth tb T = some e) : ∃ i d, TyIs P T e i d := by
  have h1 := ok_at ht h
  rw [Nat.zero_add] at h1
  unfold okTy at h1
  cases hi : P.info? T with
  | none => rw [hi] at h1; simp at h1
  | some i =>
    cases hu : P.underlying T with
    | none => rw [hi, hu] at h1; simp at h1
    | some d =>
      rw [hi, hu] at h1
      simp only [Bool.and_eq_true, beq_iff_eq] at h1
      obtain ⟨⟨⟨⟨⟨⟨⟨⟨g1, g2⟩, g3⟩, g4⟩, g5⟩, g6⟩, g7⟩, g7'⟩, g8⟩ := h1
      refine ⟨i, d, hi, hu, g1.symm, g2.symm, g3, g4, g5, g6, g7, g7', ?_⟩
      · rw [Bool.or_eq_true] at g8
        refine g8.imp List.isEmpty_iff.1 fun g9 => ?_
        cases hz : i.zero with
        | none => rw [hz] at g9; cases g9
        | some z =>
          rw [hz] at g9
          simp only [Bool.and_eq_true, beq_iff_eq] at g9
          exact ⟨z, rfl, g9.1, g9.2⟩
end
end Go.Proofs.YtefcfickggnmjaaDoor.Abs
