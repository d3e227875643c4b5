/- Headers: what the document says, plain. -/
import Derived.Test.YtbacakgjhohedaaDoorWordP
import Derived.Test.YtbacakgjhohedaaDoorWordS
import Derived.Test.YtbacakgjhohedaaDoorTreeW
import Derived.Test.YtbacakgjhohedaaDoorTy
namespace Go.Proofs.YtbacakgjhohedaaDoor.HeadP
open Abs TreeW WordP WordS

def badI (c : Int) : Bool := (decide (c < 32) && !decide (c = 9)) || decide (c = 127)
def badB (b : UInt8) : Bool := badI (b.toNat : Int)
def letF (s : List UInt8) : Bool := s.all fun b => !badB b
/-- A part's name and value, and whether it has both. -/
def pairF (p : List UInt8) : List UInt8 × List UInt8 × Bool := (trim (cutF 61 p).1, trim (cutF 61 p).2.1, (cutF 61 p).2.2)
def attrF (p : List UInt8) : Option Attr := if fold (pairF p).1 = [] then none else some ⟨fold (pairF p).1, (pairF p).2.1⟩
def raw0 : Raw := ⟨[], [], []⟩
def rawF (s : List UInt8) : Raw × Int :=
  if 400 < s.length then (raw0, 2) else if letF s = false then (raw0, 1) else
  match split 59 s with
  | [] => (raw0, 1)
  | p :: r => if (pairF p).2.2 = false ∨ (pairF p).1 = [] then (raw0, 1) else if 12 < (r.filterMap attrF).length then (raw0, 2) else (⟨(pairF p).1, (pairF p).2.1, r.filterMap attrF⟩, 0)
def plainF (s : List UInt8) : Bool := decide (trim s = s) && (letF s && !s.contains 59)
def namedF (s : List UInt8) : Bool := !decide (s = []) && (plainF s && !s.contains 61)
def okA (a : Attr) : Bool := namedF a.name && (decide (fold a.name = a.name) && plainF a.value)
def checkF (r : Raw) : Int := if namedF r.name && (plainF r.value && r.attrs.all okA) then (if 12 < r.attrs.length then 2 else 0) else 1
def attrT (a : Attr) : List UInt8 := 59 :: 32 :: a.name ++ (if a.value = [] then [] else 61 :: a.value)
def textF (r : Raw) : List UInt8 := r.name ++ 61 :: r.value ++ r.attrs.flatMap attrT
def writeF (r : Raw) : List UInt8 × Int := if checkF r = 0 then (if 400 < (textF r).length then ([], 2) else (textF r, 0)) else ([], checkF r)
theorem fold_nil {l : List UInt8} : fold l = [] ↔ l = [] := by simp [fold]
theorem pair_len (p : List UInt8) : (pairF p).1.length ≤ p.length ∧ (pairF p).2.1.length ≤ p.length := by
  have h := cutF_len 61 p
  exact ⟨Nat.le_trans (TreeW.trim_len _) h.1, Nat.le_trans (TreeW.trim_len _) h.2⟩
end Go.Proofs.YtbacakgjhohedaaDoor.HeadP
