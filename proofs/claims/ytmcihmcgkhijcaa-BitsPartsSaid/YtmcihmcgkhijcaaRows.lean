/-
  No cell of these rows narrows 'for every input' (looked for: loops, veiled, ifaces, maps, wideKeys, modest, calm, conditions, laid).
  DERIVED. THE GIVEN ROWS OF THIS SEAT. 14 by the template 'for every input the law returns true; each argument reads behind the call as it read before'; 0 by the template 'total and deterministic' (their statements: YtmcihmcgkhijcaaTotals.lean).
  GIVEN WITH THE SEED: the statements are not yours to turn. If you find one false, say at which input.
  Laid BY PROGRAM, IN A SANDBOX (cutbox-rows.mjs): the forced cells as the released guide's own fill.sh prints them over the translation 753e9fe5f04d7f34… (all of the seat's roots in one cut). By AI agents, Wed Nov 11 2026. No macro, syntax, notation, axiom, sorry.
-/
import Derived.Test.YtmcihmcgkhijcaaChecked
import GoSem.Claim
import GoSem.ClaimJoined
import GoSem.ClaimMapViews
import Derived.JoinedTies
import Derived.KernelRfl
namespace Go.Proofs.Ytmcihmcgkhijcaa
/- THE CELL 'sum', in the pinned program and in every row, IS THE sha256 OF THE DUMP (.gsa) THAT YtmcihmcgkhijcaaProg.lean LOADS. Nothing in Lean hashes anything: it is a label: what it is worth is what the hold of that sum in a sandbox is worth. -/
noncomputable def Try.pinned : Pinned := { name := "ytmcihmcgkhijcaa", sum := "753e9fe5f04d7f34421147f2d13da2da5f375788adb8c0cd724fcdb1ca8c0cdb", checked := Try.checked }
namespace Rows
def none {H : Type} : Left H := { results := [], args := [] }

/-- 'gingersnaplaw.PathTells': WHATEVER THE INPUT: true; the input reads as it did. -/
def pathTellsSpec : ChangeSpec := { name := "pathTells", fn := fun _ => fun
  | [d1, d2] => { results := [.lit (.bool true)], args := [d1, d2] }
  | _ => none }
def pathTellsRow : OpenClaim := { program := "ytmcihmcgkhijcaa", sum := "753e9fe5f04d7f34421147f2d13da2da5f375788adb8c0cd724fcdb1ca8c0cdb", func := "gingersnap/gingersnaplaw.PathTells", spec := "pathTells", apart := false }
def PathTellsSaid : Prop := pathTellsRow.holds Try.pinned (OpenSpec.ofChange pathTellsSpec)

/-- ITS FALSE NEIGHBOUR: 'it returns false'. Refute it at one input. -/
def pathTellsWrong : ChangeSpec := { name := "pathTells", fn := fun _ => fun
  | [d1, d2] => { results := [.lit (.bool false)], args := [d1, d2] }
  | _ => none }
def PathTellsWrongFalsely : Prop := pathTellsRow.holds Try.pinned (OpenSpec.ofChange pathTellsWrong)

/-- 'gingersnaplaw.PathOrder': WHATEVER THE INPUT: true; the input reads as it did. -/
def pathOrderSpec : ChangeSpec := { name := "pathOrder", fn := fun _ => fun
  | [d1, d2, d3] => { results := [.lit (.bool true)], args := [d1, d2, d3] }
  | _ => none }
def pathOrderRow : OpenClaim := { program := "ytmcihmcgkhijcaa", sum := "753e9fe5f04d7f34421147f2d13da2da5f375788adb8c0cd724fcdb1ca8c0cdb", func := "gingersnap/gingersnaplaw.PathOrder", spec := "pathOrder", apart := false }
def PathOrderSaid : Prop := pathOrderRow.holds Try.pinned (OpenSpec.ofChange pathOrderSpec)

/-- ITS FALSE NEIGHBOUR: 'it returns false'. Refute it at one input. -/
def pathOrderWrong : ChangeSpec := { name := "pathOrder", fn := fun _ => fun
  | [d1, d2, d3] => { results := [.lit (.bool false)], args := [d1, d2, d3] }
  | _ => none }
def PathOrderWrongFalsely : Prop := pathOrderRow.holds Try.pinned (OpenSpec.ofChange pathOrderWrong)

/-- 'gingersnaplaw.PathChain': WHATEVER THE INPUT: true; the input reads as it did. -/
def pathChainSpec : ChangeSpec := { name := "pathChain", fn := fun _ => fun
  | [d1, d2, d3] => { results := [.lit (.bool true)], args := [d1, d2, d3] }
  | _ => none }
def pathChainRow : OpenClaim := { program := "ytmcihmcgkhijcaa", sum := "753e9fe5f04d7f34421147f2d13da2da5f375788adb8c0cd724fcdb1ca8c0cdb", func := "gingersnap/gingersnaplaw.PathChain", spec := "pathChain", apart := false }
def PathChainSaid : Prop := pathChainRow.holds Try.pinned (OpenSpec.ofChange pathChainSpec)

/-- ITS FALSE NEIGHBOUR: 'it returns false'. Refute it at one input. -/
def pathChainWrong : ChangeSpec := { name := "pathChain", fn := fun _ => fun
  | [d1, d2, d3] => { results := [.lit (.bool false)], args := [d1, d2, d3] }
  | _ => none }
def PathChainWrongFalsely : Prop := pathChainRow.holds Try.pinned (OpenSpec.ofChange pathChainWrong)

/-- 'gingersnaplaw.ChainTells': WHATEVER THE INPUT: true; the input reads as it did. -/
def chainTellsSpec : ChangeSpec := { name := "chainTells", fn := fun _ => fun
  | [d1, d2, d3, d4] => { results := [.lit (.bool true)], args := [d1, d2, d3, d4] }
  | _ => none }
def chainTellsRow : OpenClaim := { program := "ytmcihmcgkhijcaa", sum := "753e9fe5f04d7f34421147f2d13da2da5f375788adb8c0cd724fcdb1ca8c0cdb", func := "gingersnap/gingersnaplaw.ChainTells", spec := "chainTells", unfollowed := true, recurses := true, apart := false }
def ChainTellsSaid : Prop := chainTellsRow.holds Try.pinned (OpenSpec.ofChange chainTellsSpec)

/-- ITS FALSE NEIGHBOUR: 'it returns false'. Refute it at one input. -/
def chainTellsWrong : ChangeSpec := { name := "chainTells", fn := fun _ => fun
  | [d1, d2, d3, d4] => { results := [.lit (.bool false)], args := [d1, d2, d3, d4] }
  | _ => none }
def ChainTellsWrongFalsely : Prop := chainTellsRow.holds Try.pinned (OpenSpec.ofChange chainTellsWrong)

/-- 'gingersnaplaw.ChainSame': WHATEVER THE INPUT: true; the input reads as it did. -/
def chainSameSpec : ChangeSpec := { name := "chainSame", fn := fun _ => fun
  | [d1, d2] => { results := [.lit (.bool true)], args := [d1, d2] }
  | _ => none }
def chainSameRow : OpenClaim := { program := "ytmcihmcgkhijcaa", sum := "753e9fe5f04d7f34421147f2d13da2da5f375788adb8c0cd724fcdb1ca8c0cdb", func := "gingersnap/gingersnaplaw.ChainSame", spec := "chainSame", unfollowed := true, recurses := true, apart := false }
def ChainSameSaid : Prop := chainSameRow.holds Try.pinned (OpenSpec.ofChange chainSameSpec)

/-- ITS FALSE NEIGHBOUR: 'it returns false'. Refute it at one input. -/
def chainSameWrong : ChangeSpec := { name := "chainSame", fn := fun _ => fun
  | [d1, d2] => { results := [.lit (.bool false)], args := [d1, d2] }
  | _ => none }
def ChainSameWrongFalsely : Prop := chainSameRow.holds Try.pinned (OpenSpec.ofChange chainSameWrong)

/-- 'gingersnaplaw.ChainMore': WHATEVER THE INPUT: true; the input reads as it did. -/
def chainMoreSpec : ChangeSpec := { name := "chainMore", fn := fun _ => fun
  | [d1, d2, d3] => { results := [.lit (.bool true)], args := [d1, d2, d3] }
  | _ => none }
def chainMoreRow : OpenClaim := { program := "ytmcihmcgkhijcaa", sum := "753e9fe5f04d7f34421147f2d13da2da5f375788adb8c0cd724fcdb1ca8c0cdb", func := "gingersnap/gingersnaplaw.ChainMore", spec := "chainMore", unfollowed := true, recurses := true, apart := false }
def ChainMoreSaid : Prop := chainMoreRow.holds Try.pinned (OpenSpec.ofChange chainMoreSpec)

/-- ITS FALSE NEIGHBOUR: 'it returns false'. Refute it at one input. -/
def chainMoreWrong : ChangeSpec := { name := "chainMore", fn := fun _ => fun
  | [d1, d2, d3] => { results := [.lit (.bool false)], args := [d1, d2, d3] }
  | _ => none }
def ChainMoreWrongFalsely : Prop := chainMoreRow.holds Try.pinned (OpenSpec.ofChange chainMoreWrong)

/-- 'gingersnaplaw.ChainHurt': WHATEVER THE INPUT: true; the input reads as it did. -/
def chainHurtSpec : ChangeSpec := { name := "chainHurt", fn := fun _ => fun
  | [d1, d2, d3, d4] => { results := [.lit (.bool true)], args := [d1, d2, d3, d4] }
  | _ => none }
def chainHurtRow : OpenClaim := { program := "ytmcihmcgkhijcaa", sum := "753e9fe5f04d7f34421147f2d13da2da5f375788adb8c0cd724fcdb1ca8c0cdb", func := "gingersnap/gingersnaplaw.ChainHurt", spec := "chainHurt", unfollowed := true, recurses := true, apart := false }
def ChainHurtSaid : Prop := chainHurtRow.holds Try.pinned (OpenSpec.ofChange chainHurtSpec)

/-- ITS FALSE NEIGHBOUR: 'it returns false'. Refute it at one input. -/
def chainHurtWrong : ChangeSpec := { name := "chainHurt", fn := fun _ => fun
  | [d1, d2, d3, d4] => { results := [.lit (.bool false)], args := [d1, d2, d3, d4] }
  | _ => none }
def ChainHurtWrongFalsely : Prop := chainHurtRow.holds Try.pinned (OpenSpec.ofChange chainHurtWrong)

/-- 'gingersnaplaw.BitsTells': WHATEVER THE INPUT: true; the input reads as it did. -/
def bitsTellsSpec : ChangeSpec := { name := "bitsTells", fn := fun _ => fun
  | [d1, d2, d3] => { results := [.lit (.bool true)], args := [d1, d2, d3] }
  | _ => none }
def bitsTellsRow : OpenClaim := { program := "ytmcihmcgkhijcaa", sum := "753e9fe5f04d7f34421147f2d13da2da5f375788adb8c0cd724fcdb1ca8c0cdb", func := "gingersnap/gingersnaplaw.BitsTells", spec := "bitsTells", unfollowed := true, recurses := true, apart := false }
def BitsTellsSaid : Prop := bitsTellsRow.holds Try.pinned (OpenSpec.ofChange bitsTellsSpec)

/-- ITS FALSE NEIGHBOUR: 'it returns false'. Refute it at one input. -/
def bitsTellsWrong : ChangeSpec := { name := "bitsTells", fn := fun _ => fun
  | [d1, d2, d3] => { results := [.lit (.bool false)], args := [d1, d2, d3] }
  | _ => none }
def BitsTellsWrongFalsely : Prop := bitsTellsRow.holds Try.pinned (OpenSpec.ofChange bitsTellsWrong)

/-- 'gingersnaplaw.BitsBack': WHATEVER THE INPUT: true; the input reads as it did. -/
def bitsBackSpec : ChangeSpec := { name := "bitsBack", fn := fun _ => fun
  | [d1, d2] => { results := [.lit (.bool true)], args := [d1, d2] }
  | _ => none }
def bitsBackRow : OpenClaim := { program := "ytmcihmcgkhijcaa", sum := "753e9fe5f04d7f34421147f2d13da2da5f375788adb8c0cd724fcdb1ca8c0cdb", func := "gingersnap/gingersnaplaw.BitsBack", spec := "bitsBack", unfollowed := true, recurses := true, apart := false }
def BitsBackSaid : Prop := bitsBackRow.holds Try.pinned (OpenSpec.ofChange bitsBackSpec)

/-- ITS FALSE NEIGHBOUR: 'it returns false'. Refute it at one input. -/
def bitsBackWrong : ChangeSpec := { name := "bitsBack", fn := fun _ => fun
  | [d1, d2] => { results := [.lit (.bool false)], args := [d1, d2] }
  | _ => none }
def BitsBackWrongFalsely : Prop := bitsBackRow.holds Try.pinned (OpenSpec.ofChange bitsBackWrong)

/-- 'gingersnaplaw.BitsParts': WHATEVER THE INPUT: true; the input reads as it did. -/
def bitsPartsSpec : ChangeSpec := { name := "bitsParts", fn := fun _ => fun
  | [d1, d2, d3] => { results := [.lit (.bool true)], args := [d1, d2, d3] }
  | _ => none }
def bitsPartsRow : OpenClaim := { program := "ytmcihmcgkhijcaa", sum := "753e9fe5f04d7f34421147f2d13da2da5f375788adb8c0cd724fcdb1ca8c0cdb", func := "gingersnap/gingersnaplaw.BitsParts", spec := "bitsParts", unfollowed := true, recurses := true, apart := false }
def BitsPartsSaid : Prop := bitsPartsRow.holds Try.pinned (OpenSpec.ofChange bitsPartsSpec)

/-- ITS FALSE NEIGHBOUR: 'it returns false'. Refute it at one input. -/
def bitsPartsWrong : ChangeSpec := { name := "bitsParts", fn := fun _ => fun
  | [d1, d2, d3] => { results := [.lit (.bool false)], args := [d1, d2, d3] }
  | _ => none }
def BitsPartsWrongFalsely : Prop := bitsPartsRow.holds Try.pinned (OpenSpec.ofChange bitsPartsWrong)

/-- 'gingersnaplaw.ClockTells': WHATEVER THE INPUT: true; the input reads as it did. -/
def clockTellsSpec : ChangeSpec := { name := "clockTells", fn := fun _ => fun
  | [d1, d2, d3] => { results := [.lit (.bool true)], args := [d1, d2, d3] }
  | _ => none }
def clockTellsRow : OpenClaim := { program := "ytmcihmcgkhijcaa", sum := "753e9fe5f04d7f34421147f2d13da2da5f375788adb8c0cd724fcdb1ca8c0cdb", func := "gingersnap/gingersnaplaw.ClockTells", spec := "clockTells", apart := false }
def ClockTellsSaid : Prop := clockTellsRow.holds Try.pinned (OpenSpec.ofChange clockTellsSpec)

/-- ITS FALSE NEIGHBOUR: 'it returns false'. Refute it at one input. -/
def clockTellsWrong : ChangeSpec := { name := "clockTells", fn := fun _ => fun
  | [d1, d2, d3] => { results := [.lit (.bool false)], args := [d1, d2, d3] }
  | _ => none }
def ClockTellsWrongFalsely : Prop := clockTellsRow.holds Try.pinned (OpenSpec.ofChange clockTellsWrong)

/-- 'gingersnaplaw.ClockBack': WHATEVER THE INPUT: true; the input reads as it did. -/
def clockBackSpec : ChangeSpec := { name := "clockBack", fn := fun _ => fun
  | [d1, d2] => { results := [.lit (.bool true)], args := [d1, d2] }
  | _ => none }
def clockBackRow : OpenClaim := { program := "ytmcihmcgkhijcaa", sum := "753e9fe5f04d7f34421147f2d13da2da5f375788adb8c0cd724fcdb1ca8c0cdb", func := "gingersnap/gingersnaplaw.ClockBack", spec := "clockBack", apart := false }
def ClockBackSaid : Prop := clockBackRow.holds Try.pinned (OpenSpec.ofChange clockBackSpec)

/-- ITS FALSE NEIGHBOUR: 'it returns false'. Refute it at one input. -/
def clockBackWrong : ChangeSpec := { name := "clockBack", fn := fun _ => fun
  | [d1, d2] => { results := [.lit (.bool false)], args := [d1, d2] }
  | _ => none }
def ClockBackWrongFalsely : Prop := clockBackRow.holds Try.pinned (OpenSpec.ofChange clockBackWrong)

/-- 'gingersnaplaw.ClockCycle': WHATEVER THE INPUT: true; the input reads as it did. -/
def clockCycleSpec : ChangeSpec := { name := "clockCycle", fn := fun _ => fun
  | [d] => { results := [.lit (.bool true)], args := [d] }
  | _ => none }
def clockCycleRow : OpenClaim := { program := "ytmcihmcgkhijcaa", sum := "753e9fe5f04d7f34421147f2d13da2da5f375788adb8c0cd724fcdb1ca8c0cdb", func := "gingersnap/gingersnaplaw.ClockCycle", spec := "clockCycle", apart := false }
def ClockCycleSaid : Prop := clockCycleRow.holds Try.pinned (OpenSpec.ofChange clockCycleSpec)

/-- ITS FALSE NEIGHBOUR: 'it returns false'. Refute it at one input. -/
def clockCycleWrong : ChangeSpec := { name := "clockCycle", fn := fun _ => fun
  | [d] => { results := [.lit (.bool false)], args := [d] }
  | _ => none }
def ClockCycleWrongFalsely : Prop := clockCycleRow.holds Try.pinned (OpenSpec.ofChange clockCycleWrong)

/-- 'gingersnaplaw.ClockAdds': WHATEVER THE INPUT: true; the input reads as it did. -/
def clockAddsSpec : ChangeSpec := { name := "clockAdds", fn := fun _ => fun
  | [d1, d2, d3] => { results := [.lit (.bool true)], args := [d1, d2, d3] }
  | _ => none }
def clockAddsRow : OpenClaim := { program := "ytmcihmcgkhijcaa", sum := "753e9fe5f04d7f34421147f2d13da2da5f375788adb8c0cd724fcdb1ca8c0cdb", func := "gingersnap/gingersnaplaw.ClockAdds", spec := "clockAdds", apart := false }
def ClockAddsSaid : Prop := clockAddsRow.holds Try.pinned (OpenSpec.ofChange clockAddsSpec)

/-- ITS FALSE NEIGHBOUR: 'it returns false'. Refute it at one input. -/
def clockAddsWrong : ChangeSpec := { name := "clockAdds", fn := fun _ => fun
  | [d1, d2, d3] => { results := [.lit (.bool false)], args := [d1, d2, d3] }
  | _ => none }
def ClockAddsWrongFalsely : Prop := clockAddsRow.holds Try.pinned (OpenSpec.ofChange clockAddsWrong)

/- THE SECOND FORM. 'bulk': how many values and letters a reading holds, each counted each time it is reached (what is shared counts as often as it is met; a slice's spare places count too). A statement '..UptoSaid' is the law's where the arguments, and the package variables that the reading takes, are together of bulk at most 1048576: NARROWER than '..Said'. Prove '..Said' where nothing that the law and all that it calls make is longer than what came in: it says more and counts as full. Else prove '..UptoSaid'. A law counts once. -/
mutual
def uptoBulk {H : Type} : DataW H → Nat
  | .lit (.string bytes) => bytes.length + 1
  | .lit _ => 1
  | .nil => 1
  | .ptr d => uptoBulk d + 1
  | .slice elems spare => uptoBulkAll elems + uptoBulkAll spare + 1
  | .agg parts => uptoBulkAll parts + 1
  | .iface _ d => uptoBulk d + 1
  | .map entries => uptoBulkEntries entries + 1
  | .held _ => 1
def uptoBulkAll {H : Type} : List (DataW H) → Nat
  | [] => 0
  | d :: r => uptoBulk d + uptoBulkAll r
def uptoBulkEntries {H : Type} : List (Lit × DataW H) → Nat
  | [] => 0
  | x :: r => uptoBulkEntry x + uptoBulkEntries r
def uptoBulkEntry {H : Type} : Lit × DataW H → Nat
  | (.string bytes, d) => bytes.length + uptoBulk d + 1
  | (_, d) => uptoBulk d + 1
 end
def uptoSmall : (H : Type) → List (DataW H) → Bool := fun _ ds => decide (uptoBulkAll ds ≤ 1048576)
def OpenSpec.upto (s : _root_.Go.ChangeSpec) : _root_.Go.OpenSpec := { _root_.Go.OpenSpec.ofChange s with cond := some uptoSmall }

/-- 'gingersnaplaw.PathTells', WHERE WHAT IT READS IS OF BULK AT MOST 1048576: true; the input reads as it did. -/
def pathTellsUptoRow : OpenClaim := { program := "ytmcihmcgkhijcaa", sum := "753e9fe5f04d7f34421147f2d13da2da5f375788adb8c0cd724fcdb1ca8c0cdb", func := "gingersnap/gingersnaplaw.PathTells", spec := "pathTells", apart := false, narrowed := true }
def PathTellsUptoSaid : Prop := pathTellsUptoRow.holds Try.pinned (OpenSpec.upto pathTellsSpec)

/-- 'gingersnaplaw.PathOrder', WHERE WHAT IT READS IS OF BULK AT MOST 1048576: true; the input reads as it did. -/
def pathOrderUptoRow : OpenClaim := { program := "ytmcihmcgkhijcaa", sum := "753e9fe5f04d7f34421147f2d13da2da5f375788adb8c0cd724fcdb1ca8c0cdb", func := "gingersnap/gingersnaplaw.PathOrder", spec := "pathOrder", apart := false, narrowed := true }
def PathOrderUptoSaid : Prop := pathOrderUptoRow.holds Try.pinned (OpenSpec.upto pathOrderSpec)

/-- 'gingersnaplaw.PathChain', WHERE WHAT IT READS IS OF BULK AT MOST 1048576: true; the input reads as it did. -/
def pathChainUptoRow : OpenClaim := { program := "ytmcihmcgkhijcaa", sum := "753e9fe5f04d7f34421147f2d13da2da5f375788adb8c0cd724fcdb1ca8c0cdb", func := "gingersnap/gingersnaplaw.PathChain", spec := "pathChain", apart := false, narrowed := true }
def PathChainUptoSaid : Prop := pathChainUptoRow.holds Try.pinned (OpenSpec.upto pathChainSpec)

/-- 'gingersnaplaw.ChainTells', WHERE WHAT IT READS IS OF BULK AT MOST 1048576: true; the input reads as it did. -/
def chainTellsUptoRow : OpenClaim := { program := "ytmcihmcgkhijcaa", sum := "753e9fe5f04d7f34421147f2d13da2da5f375788adb8c0cd724fcdb1ca8c0cdb", func := "gingersnap/gingersnaplaw.ChainTells", spec := "chainTells", unfollowed := true, recurses := true, apart := false, narrowed := true }
def ChainTellsUptoSaid : Prop := chainTellsUptoRow.holds Try.pinned (OpenSpec.upto chainTellsSpec)

/-- 'gingersnaplaw.ChainSame', WHERE WHAT IT READS IS OF BULK AT MOST 1048576: true; the input reads as it did. -/
def chainSameUptoRow : OpenClaim := { program := "ytmcihmcgkhijcaa", sum := "753e9fe5f04d7f34421147f2d13da2da5f375788adb8c0cd724fcdb1ca8c0cdb", func := "gingersnap/gingersnaplaw.ChainSame", spec := "chainSame", unfollowed := true, recurses := true, apart := false, narrowed := true }
def ChainSameUptoSaid : Prop := chainSameUptoRow.holds Try.pinned (OpenSpec.upto chainSameSpec)

/-- 'gingersnaplaw.ChainMore', WHERE WHAT IT READS IS OF BULK AT MOST 1048576: true; the input reads as it did. -/
def chainMoreUptoRow : OpenClaim := { program := "ytmcihmcgkhijcaa", sum := "753e9fe5f04d7f34421147f2d13da2da5f375788adb8c0cd724fcdb1ca8c0cdb", func := "gingersnap/gingersnaplaw.ChainMore", spec := "chainMore", unfollowed := true, recurses := true, apart := false, narrowed := true }
def ChainMoreUptoSaid : Prop := chainMoreUptoRow.holds Try.pinned (OpenSpec.upto chainMoreSpec)

/-- 'gingersnaplaw.ChainHurt', WHERE WHAT IT READS IS OF BULK AT MOST 1048576: true; the input reads as it did. -/
def chainHurtUptoRow : OpenClaim := { program := "ytmcihmcgkhijcaa", sum := "753e9fe5f04d7f34421147f2d13da2da5f375788adb8c0cd724fcdb1ca8c0cdb", func := "gingersnap/gingersnaplaw.ChainHurt", spec := "chainHurt", unfollowed := true, recurses := true, apart := false, narrowed := true }
def ChainHurtUptoSaid : Prop := chainHurtUptoRow.holds Try.pinned (OpenSpec.upto chainHurtSpec)

/-- 'gingersnaplaw.BitsTells', WHERE WHAT IT READS IS OF BULK AT MOST 1048576: true; the input reads as it did. -/
def bitsTellsUptoRow : OpenClaim := { program := "ytmcihmcgkhijcaa", sum := "753e9fe5f04d7f34421147f2d13da2da5f375788adb8c0cd724fcdb1ca8c0cdb", func := "gingersnap/gingersnaplaw.BitsTells", spec := "bitsTells", unfollowed := true, recurses := true, apart := false, narrowed := true }
def BitsTellsUptoSaid : Prop := bitsTellsUptoRow.holds Try.pinned (OpenSpec.upto bitsTellsSpec)

/-- 'gingersnaplaw.BitsBack', WHERE WHAT IT READS IS OF BULK AT MOST 1048576: true; the input reads as it did. -/
def bitsBackUptoRow : OpenClaim := { program := "ytmcihmcgkhijcaa", sum := "753e9fe5f04d7f34421147f2d13da2da5f375788adb8c0cd724fcdb1ca8c0cdb", func := "gingersnap/gingersnaplaw.BitsBack", spec := "bitsBack", unfollowed := true, recurses := true, apart := false, narrowed := true }
def BitsBackUptoSaid : Prop := bitsBackUptoRow.holds Try.pinned (OpenSpec.upto bitsBackSpec)

/-- 'gingersnaplaw.BitsParts', WHERE WHAT IT READS IS OF BULK AT MOST 1048576: true; the input reads as it did. -/
def bitsPartsUptoRow : OpenClaim := { program := "ytmcihmcgkhijcaa", sum := "753e9fe5f04d7f34421147f2d13da2da5f375788adb8c0cd724fcdb1ca8c0cdb", func := "gingersnap/gingersnaplaw.BitsParts", spec := "bitsParts", unfollowed := true, recurses := true, apart := false, narrowed := true }
def BitsPartsUptoSaid : Prop := bitsPartsUptoRow.holds Try.pinned (OpenSpec.upto bitsPartsSpec)

/-- 'gingersnaplaw.ClockTells', WHERE WHAT IT READS IS OF BULK AT MOST 1048576: true; the input reads as it did. -/
def clockTellsUptoRow : OpenClaim := { program := "ytmcihmcgkhijcaa", sum := "753e9fe5f04d7f34421147f2d13da2da5f375788adb8c0cd724fcdb1ca8c0cdb", func := "gingersnap/gingersnaplaw.ClockTells", spec := "clockTells", apart := false, narrowed := true }
def ClockTellsUptoSaid : Prop := clockTellsUptoRow.holds Try.pinned (OpenSpec.upto clockTellsSpec)

/-- 'gingersnaplaw.ClockBack', WHERE WHAT IT READS IS OF BULK AT MOST 1048576: true; the input reads as it did. -/
def clockBackUptoRow : OpenClaim := { program := "ytmcihmcgkhijcaa", sum := "753e9fe5f04d7f34421147f2d13da2da5f375788adb8c0cd724fcdb1ca8c0cdb", func := "gingersnap/gingersnaplaw.ClockBack", spec := "clockBack", apart := false, narrowed := true }
def ClockBackUptoSaid : Prop := clockBackUptoRow.holds Try.pinned (OpenSpec.upto clockBackSpec)

/-- 'gingersnaplaw.ClockCycle', WHERE WHAT IT READS IS OF BULK AT MOST 1048576: true; the input reads as it did. -/
def clockCycleUptoRow : OpenClaim := { program := "ytmcihmcgkhijcaa", sum := "753e9fe5f04d7f34421147f2d13da2da5f375788adb8c0cd724fcdb1ca8c0cdb", func := "gingersnap/gingersnaplaw.ClockCycle", spec := "clockCycle", apart := false, narrowed := true }
def ClockCycleUptoSaid : Prop := clockCycleUptoRow.holds Try.pinned (OpenSpec.upto clockCycleSpec)

/-- 'gingersnaplaw.ClockAdds', WHERE WHAT IT READS IS OF BULK AT MOST 1048576: true; the input reads as it did. -/
def clockAddsUptoRow : OpenClaim := { program := "ytmcihmcgkhijcaa", sum := "753e9fe5f04d7f34421147f2d13da2da5f375788adb8c0cd724fcdb1ca8c0cdb", func := "gingersnap/gingersnaplaw.ClockAdds", spec := "clockAdds", apart := false, narrowed := true }
def ClockAddsUptoSaid : Prop := clockAddsUptoRow.holds Try.pinned (OpenSpec.upto clockAddsSpec)

end Rows
end Go.Proofs.Ytmcihmcgkhijcaa
