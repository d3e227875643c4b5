/-
  NARROWER THAN 'FOR EVERY INPUT', by the rows' own cells (each row's printed sentence says how): GoesTells: laid · GoesLess: laid · GoesDeeper: laid · HostTells: laid · HostTwice: laid · MatchOrder: laid · MatchChain: laid · SuffixTells: laid · OwnerTwice: laid · OwnerSame: laid.
  DERIVED. THE GIVEN ROWS OF THIS SEAT. 10 by the template 'for every input the law returns true; each argument reads behind the call as it read before'; 0 by the template 'total and deterministic' (their statements: YtkgdkpiacencjaaDoorTotals.lean).
  GIVEN WITH THE SEED: the statements are not yours to turn. If you find one false, say at which input.
  Laid BY PROGRAM, IN A SANDBOX (cutbox-rows.mjs): the forced cells as the released guide's own fill.sh prints them over the translation 69c377491721200e… (all of the seat's roots in one cut). By AI agents, Wed Nov 11 2026. No macro, syntax, notation, axiom, sorry.
-/
import Derived.Test.YtkgdkpiacencjaaDoorChecked
import GoSem.Claim
import GoSem.ClaimJoined
import GoSem.ClaimMapViews
import Derived.JoinedTies
import Derived.KernelRfl
namespace Go.Proofs.YtkgdkpiacencjaaDoor
/- THE CELL 'sum', in the pinned program and in every row, IS THE sha256 OF THE DUMP (.gsa) THAT YtkgdkpiacencjaaDoorProg.lean LOADS. Nothing in Lean hashes anything: it is a label: what it is worth is what the hold of that sum in a sandbox is worth. -/
noncomputable def Tryd.pinned : Pinned := { name := "ytkgdkpiacencjaadoor", sum := "69c377491721200ecf18ac468c27d5d35bc80b246196bac347a2f6b09234cc2d", checked := Tryd.checked }
namespace Rows
def none {H : Type} : Left H := { results := [], args := [] }

/- WHAT THE LISTED PACKAGE-LEVEL VARIABLES READ AS WHEN THE CALL BEGINS. Each datum BY PROGRAM (the guide's laid-datum.mjs) off the statement by which the dump's own 'gosem.cut.vars' lays the variable. In a bare row this is a premise. The card (YtkgdkpiacencjaaDoorCards.lean) ties it to the program's text. -/
def laid_math_bits_deBruijn32tab {H : Type} : DataW H := .agg [.lit (.int .u8 0), .lit (.int .u8 1), .lit (.int .u8 28), .lit (.int .u8 2), .lit (.int .u8 29), .lit (.int .u8 14), .lit (.int .u8 24), .lit (.int .u8 3), .lit (.int .u8 30), .lit (.int .u8 22), .lit (.int .u8 20), .lit (.int .u8 15), .lit (.int .u8 25), .lit (.int .u8 17), .lit (.int .u8 4), .lit (.int .u8 8), .lit (.int .u8 31), .lit (.int .u8 27), .lit (.int .u8 13), .lit (.int .u8 23), .lit (.int .u8 21), .lit (.int .u8 19), .lit (.int .u8 16), .lit (.int .u8 7), .lit (.int .u8 26), .lit (.int .u8 12), .lit (.int .u8 18), .lit (.int .u8 6), .lit (.int .u8 11), .lit (.int .u8 5), .lit (.int .u8 10), .lit (.int .u8 9)]
def laid_math_bits_deBruijn64tab {H : Type} : DataW H := .agg [.lit (.int .u8 0), .lit (.int .u8 1), .lit (.int .u8 56), .lit (.int .u8 2), .lit (.int .u8 57), .lit (.int .u8 49), .lit (.int .u8 28), .lit (.int .u8 3), .lit (.int .u8 61), .lit (.int .u8 58), .lit (.int .u8 42), .lit (.int .u8 50), .lit (.int .u8 38), .lit (.int .u8 29), .lit (.int .u8 17), .lit (.int .u8 4), .lit (.int .u8 62), .lit (.int .u8 47), .lit (.int .u8 59), .lit (.int .u8 36), .lit (.int .u8 45), .lit (.int .u8 43), .lit (.int .u8 51), .lit (.int .u8 22), .lit (.int .u8 53), .lit (.int .u8 39), .lit (.int .u8 33), .lit (.int .u8 30), .lit (.int .u8 24), .lit (.int .u8 18), .lit (.int .u8 12), .lit (.int .u8 5), .lit (.int .u8 63), .lit (.int .u8 55), .lit (.int .u8 48), .lit (.int .u8 27), .lit (.int .u8 60), .lit (.int .u8 41), .lit (.int .u8 37), .lit (.int .u8 16), .lit (.int .u8 46), .lit (.int .u8 35), .lit (.int .u8 44), .lit (.int .u8 21), .lit (.int .u8 52), .lit (.int .u8 32), .lit (.int .u8 23), .lit (.int .u8 11), .lit (.int .u8 54), .lit (.int .u8 26), .lit (.int .u8 40), .lit (.int .u8 15), .lit (.int .u8 34), .lit (.int .u8 20), .lit (.int .u8 31), .lit (.int .u8 10), .lit (.int .u8 25), .lit (.int .u8 14), .lit (.int .u8 19), .lit (.int .u8 9), .lit (.int .u8 13), .lit (.int .u8 8), .lit (.int .u8 7), .lit (.int .u8 6)]
def laid_internal_strconv_uint64pow10 {H : Type} : DataW H := .agg [.lit (.int .u64 1), .lit (.int .u64 10), .lit (.int .u64 100), .lit (.int .u64 1000), .lit (.int .u64 10000), .lit (.int .u64 100000), .lit (.int .u64 1000000), .lit (.int .u64 10000000), .lit (.int .u64 100000000), .lit (.int .u64 1000000000), .lit (.int .u64 10000000000), .lit (.int .u64 100000000000), .lit (.int .u64 1000000000000), .lit (.int .u64 10000000000000), .lit (.int .u64 100000000000000), .lit (.int .u64 1000000000000000), .lit (.int .u64 10000000000000000), .lit (.int .u64 100000000000000000), .lit (.int .u64 1000000000000000000), .lit (.int .u64 10000000000000000000)]
def laid_strconv_ErrRange {H : Type} : DataW H := .iface "*errors.errorString" (.ptr (.agg [.lit (.string [118, 97, 108, 117, 101, 32, 111, 117, 116, 32, 111, 102, 32, 114, 97, 110, 103, 101])]))
def laid_strconv_ErrSyntax {H : Type} : DataW H := .iface "*errors.errorString" (.ptr (.agg [.lit (.string [105, 110, 118, 97, 108, 105, 100, 32, 115, 121, 110, 116, 97, 120])]))

/-- 'gingersnaplaw.GoesTells': WHATEVER THE INPUT: true; the input reads as it did. -/
def goesTellsSpec : ChangeSpec := { name := "goesTells", fn := fun _ => fun
  | [d1, d2, d3] => { results := [.lit (.bool true)], args := [d1, d2, d3] }
  | _ => none }
def goesTellsRow : OpenClaim := { program := "ytkgdkpiacencjaadoor", sum := "69c377491721200ecf18ac468c27d5d35bc80b246196bac347a2f6b09234cc2d", func := "gingersnap/gingersnaplaw.GoesTells", spec := "goesTells", inPlace := ["internal/bytealg.IndexByteString"], unfollowed := true, recurses := true, named := ["strconv.ErrSyntax", "strconv.ErrRange", "internal/strconv.uint64pow10", "math/bits.deBruijn32tab", "math/bits.deBruijn64tab"], plainKeys := false, apart := false, laid := [("math/bits.deBruijn32tab", laid_math_bits_deBruijn32tab), ("math/bits.deBruijn64tab", laid_math_bits_deBruijn64tab), ("internal/strconv.uint64pow10", laid_internal_strconv_uint64pow10), ("strconv.ErrRange", laid_strconv_ErrRange), ("strconv.ErrSyntax", laid_strconv_ErrSyntax)] }
def GoesTellsSaid : Prop := goesTellsRow.holds Tryd.pinned (OpenSpec.ofChange goesTellsSpec)

/-- ITS FALSE NEIGHBOUR: 'it returns false'. Refute it at one input. -/
def goesTellsWrong : ChangeSpec := { name := "goesTells", fn := fun _ => fun
  | [d1, d2, d3] => { results := [.lit (.bool false)], args := [d1, d2, d3] }
  | _ => none }
def GoesTellsWrongFalsely : Prop := goesTellsRow.holds Tryd.pinned (OpenSpec.ofChange goesTellsWrong)

/-- 'gingersnaplaw.GoesLess': WHATEVER THE INPUT: true; the input reads as it did. -/
def goesLessSpec : ChangeSpec := { name := "goesLess", fn := fun _ => fun
  | [d1, d2, d3, d4, d5] => { results := [.lit (.bool true)], args := [d1, d2, d3, d4, d5] }
  | _ => none }
def goesLessRow : OpenClaim := { program := "ytkgdkpiacencjaadoor", sum := "69c377491721200ecf18ac468c27d5d35bc80b246196bac347a2f6b09234cc2d", func := "gingersnap/gingersnaplaw.GoesLess", spec := "goesLess", inPlace := ["internal/bytealg.IndexByteString"], unfollowed := true, recurses := true, named := ["strconv.ErrSyntax", "strconv.ErrRange", "internal/strconv.uint64pow10", "math/bits.deBruijn32tab", "math/bits.deBruijn64tab"], plainKeys := false, apart := false, laid := [("math/bits.deBruijn32tab", laid_math_bits_deBruijn32tab), ("math/bits.deBruijn64tab", laid_math_bits_deBruijn64tab), ("internal/strconv.uint64pow10", laid_internal_strconv_uint64pow10), ("strconv.ErrRange", laid_strconv_ErrRange), ("strconv.ErrSyntax", laid_strconv_ErrSyntax)] }
def GoesLessSaid : Prop := goesLessRow.holds Tryd.pinned (OpenSpec.ofChange goesLessSpec)

/-- ITS FALSE NEIGHBOUR: 'it returns false'. Refute it at one input. -/
def goesLessWrong : ChangeSpec := { name := "goesLess", fn := fun _ => fun
  | [d1, d2, d3, d4, d5] => { results := [.lit (.bool false)], args := [d1, d2, d3, d4, d5] }
  | _ => none }
def GoesLessWrongFalsely : Prop := goesLessRow.holds Tryd.pinned (OpenSpec.ofChange goesLessWrong)

/-- 'gingersnaplaw.GoesDeeper': WHATEVER THE INPUT: true; the input reads as it did. -/
def goesDeeperSpec : ChangeSpec := { name := "goesDeeper", fn := fun _ => fun
  | [d1, d2, d3, d4, d5] => { results := [.lit (.bool true)], args := [d1, d2, d3, d4, d5] }
  | _ => none }
def goesDeeperRow : OpenClaim := { program := "ytkgdkpiacencjaadoor", sum := "69c377491721200ecf18ac468c27d5d35bc80b246196bac347a2f6b09234cc2d", func := "gingersnap/gingersnaplaw.GoesDeeper", spec := "goesDeeper", inPlace := ["internal/bytealg.IndexByteString"], unfollowed := true, recurses := true, named := ["strconv.ErrSyntax", "strconv.ErrRange", "internal/strconv.uint64pow10", "math/bits.deBruijn32tab", "math/bits.deBruijn64tab"], plainKeys := false, apart := false, laid := [("math/bits.deBruijn32tab", laid_math_bits_deBruijn32tab), ("math/bits.deBruijn64tab", laid_math_bits_deBruijn64tab), ("internal/strconv.uint64pow10", laid_internal_strconv_uint64pow10), ("strconv.ErrRange", laid_strconv_ErrRange), ("strconv.ErrSyntax", laid_strconv_ErrSyntax)] }
def GoesDeeperSaid : Prop := goesDeeperRow.holds Tryd.pinned (OpenSpec.ofChange goesDeeperSpec)

/-- ITS FALSE NEIGHBOUR: 'it returns false'. Refute it at one input. -/
def goesDeeperWrong : ChangeSpec := { name := "goesDeeper", fn := fun _ => fun
  | [d1, d2, d3, d4, d5] => { results := [.lit (.bool false)], args := [d1, d2, d3, d4, d5] }
  | _ => none }
def GoesDeeperWrongFalsely : Prop := goesDeeperRow.holds Tryd.pinned (OpenSpec.ofChange goesDeeperWrong)

/-- 'gingersnaplaw.HostTells': WHATEVER THE INPUT: true; the input reads as it did. -/
def hostTellsSpec : ChangeSpec := { name := "hostTells", fn := fun _ => fun
  | [d1, d2] => { results := [.lit (.bool true)], args := [d1, d2] }
  | _ => none }
def hostTellsRow : OpenClaim := { program := "ytkgdkpiacencjaadoor", sum := "69c377491721200ecf18ac468c27d5d35bc80b246196bac347a2f6b09234cc2d", func := "gingersnap/gingersnaplaw.HostTells", spec := "hostTells", inPlace := ["internal/bytealg.IndexByteString"], unfollowed := true, recurses := true, named := ["strconv.ErrSyntax", "strconv.ErrRange", "internal/strconv.uint64pow10", "math/bits.deBruijn32tab", "math/bits.deBruijn64tab"], plainKeys := false, apart := false, laid := [("math/bits.deBruijn32tab", laid_math_bits_deBruijn32tab), ("math/bits.deBruijn64tab", laid_math_bits_deBruijn64tab), ("internal/strconv.uint64pow10", laid_internal_strconv_uint64pow10), ("strconv.ErrRange", laid_strconv_ErrRange), ("strconv.ErrSyntax", laid_strconv_ErrSyntax)] }
def HostTellsSaid : Prop := hostTellsRow.holds Tryd.pinned (OpenSpec.ofChange hostTellsSpec)

/-- ITS FALSE NEIGHBOUR: 'it returns false'. Refute it at one input. -/
def hostTellsWrong : ChangeSpec := { name := "hostTells", fn := fun _ => fun
  | [d1, d2] => { results := [.lit (.bool false)], args := [d1, d2] }
  | _ => none }
def HostTellsWrongFalsely : Prop := hostTellsRow.holds Tryd.pinned (OpenSpec.ofChange hostTellsWrong)

/-- 'gingersnaplaw.HostTwice': WHATEVER THE INPUT: true; the input reads as it did. -/
def hostTwiceSpec : ChangeSpec := { name := "hostTwice", fn := fun _ => fun
  | [d] => { results := [.lit (.bool true)], args := [d] }
  | _ => none }
def hostTwiceRow : OpenClaim := { program := "ytkgdkpiacencjaadoor", sum := "69c377491721200ecf18ac468c27d5d35bc80b246196bac347a2f6b09234cc2d", func := "gingersnap/gingersnaplaw.HostTwice", spec := "hostTwice", inPlace := ["internal/bytealg.IndexByteString"], unfollowed := true, recurses := true, named := ["strconv.ErrSyntax", "strconv.ErrRange", "internal/strconv.uint64pow10", "math/bits.deBruijn32tab", "math/bits.deBruijn64tab"], plainKeys := false, apart := false, laid := [("math/bits.deBruijn32tab", laid_math_bits_deBruijn32tab), ("math/bits.deBruijn64tab", laid_math_bits_deBruijn64tab), ("internal/strconv.uint64pow10", laid_internal_strconv_uint64pow10), ("strconv.ErrRange", laid_strconv_ErrRange), ("strconv.ErrSyntax", laid_strconv_ErrSyntax)] }
def HostTwiceSaid : Prop := hostTwiceRow.holds Tryd.pinned (OpenSpec.ofChange hostTwiceSpec)

/-- ITS FALSE NEIGHBOUR: 'it returns false'. Refute it at one input. -/
def hostTwiceWrong : ChangeSpec := { name := "hostTwice", fn := fun _ => fun
  | [d] => { results := [.lit (.bool false)], args := [d] }
  | _ => none }
def HostTwiceWrongFalsely : Prop := hostTwiceRow.holds Tryd.pinned (OpenSpec.ofChange hostTwiceWrong)

/-- 'gingersnaplaw.MatchOrder': WHATEVER THE INPUT: true; the input reads as it did. -/
def matchOrderSpec : ChangeSpec := { name := "matchOrder", fn := fun _ => fun
  | [d1, d2, d3] => { results := [.lit (.bool true)], args := [d1, d2, d3] }
  | _ => none }
def matchOrderRow : OpenClaim := { program := "ytkgdkpiacencjaadoor", sum := "69c377491721200ecf18ac468c27d5d35bc80b246196bac347a2f6b09234cc2d", func := "gingersnap/gingersnaplaw.MatchOrder", spec := "matchOrder", inPlace := ["internal/bytealg.IndexByteString"], unfollowed := true, recurses := true, named := ["strconv.ErrSyntax", "strconv.ErrRange", "internal/strconv.uint64pow10", "math/bits.deBruijn32tab", "math/bits.deBruijn64tab"], plainKeys := false, apart := false, laid := [("math/bits.deBruijn32tab", laid_math_bits_deBruijn32tab), ("math/bits.deBruijn64tab", laid_math_bits_deBruijn64tab), ("internal/strconv.uint64pow10", laid_internal_strconv_uint64pow10), ("strconv.ErrRange", laid_strconv_ErrRange), ("strconv.ErrSyntax", laid_strconv_ErrSyntax)] }
def MatchOrderSaid : Prop := matchOrderRow.holds Tryd.pinned (OpenSpec.ofChange matchOrderSpec)

/-- ITS FALSE NEIGHBOUR: 'it returns false'. Refute it at one input. -/
def matchOrderWrong : ChangeSpec := { name := "matchOrder", fn := fun _ => fun
  | [d1, d2, d3] => { results := [.lit (.bool false)], args := [d1, d2, d3] }
  | _ => none }
def MatchOrderWrongFalsely : Prop := matchOrderRow.holds Tryd.pinned (OpenSpec.ofChange matchOrderWrong)

/-- 'gingersnaplaw.MatchChain': WHATEVER THE INPUT: true; the input reads as it did. -/
def matchChainSpec : ChangeSpec := { name := "matchChain", fn := fun _ => fun
  | [d1, d2, d3] => { results := [.lit (.bool true)], args := [d1, d2, d3] }
  | _ => none }
def matchChainRow : OpenClaim := { program := "ytkgdkpiacencjaadoor", sum := "69c377491721200ecf18ac468c27d5d35bc80b246196bac347a2f6b09234cc2d", func := "gingersnap/gingersnaplaw.MatchChain", spec := "matchChain", inPlace := ["internal/bytealg.IndexByteString"], unfollowed := true, recurses := true, named := ["strconv.ErrSyntax", "strconv.ErrRange", "internal/strconv.uint64pow10", "math/bits.deBruijn32tab", "math/bits.deBruijn64tab"], plainKeys := false, apart := false, laid := [("math/bits.deBruijn32tab", laid_math_bits_deBruijn32tab), ("math/bits.deBruijn64tab", laid_math_bits_deBruijn64tab), ("internal/strconv.uint64pow10", laid_internal_strconv_uint64pow10), ("strconv.ErrRange", laid_strconv_ErrRange), ("strconv.ErrSyntax", laid_strconv_ErrSyntax)] }
def MatchChainSaid : Prop := matchChainRow.holds Tryd.pinned (OpenSpec.ofChange matchChainSpec)

/-- ITS FALSE NEIGHBOUR: 'it returns false'. Refute it at one input. -/
def matchChainWrong : ChangeSpec := { name := "matchChain", fn := fun _ => fun
  | [d1, d2, d3] => { results := [.lit (.bool false)], args := [d1, d2, d3] }
  | _ => none }
def MatchChainWrongFalsely : Prop := matchChainRow.holds Tryd.pinned (OpenSpec.ofChange matchChainWrong)

/-- 'gingersnaplaw.SuffixTells': WHATEVER THE INPUT: true; the input reads as it did. -/
def suffixTellsSpec : ChangeSpec := { name := "suffixTells", fn := fun _ => fun
  | [d1, d2] => { results := [.lit (.bool true)], args := [d1, d2] }
  | _ => none }
def suffixTellsRow : OpenClaim := { program := "ytkgdkpiacencjaadoor", sum := "69c377491721200ecf18ac468c27d5d35bc80b246196bac347a2f6b09234cc2d", func := "gingersnap/gingersnaplaw.SuffixTells", spec := "suffixTells", inPlace := ["internal/bytealg.IndexByteString"], unfollowed := true, recurses := true, named := ["strconv.ErrSyntax", "strconv.ErrRange", "internal/strconv.uint64pow10", "math/bits.deBruijn32tab", "math/bits.deBruijn64tab"], plainKeys := false, apart := false, laid := [("math/bits.deBruijn32tab", laid_math_bits_deBruijn32tab), ("math/bits.deBruijn64tab", laid_math_bits_deBruijn64tab), ("internal/strconv.uint64pow10", laid_internal_strconv_uint64pow10), ("strconv.ErrRange", laid_strconv_ErrRange), ("strconv.ErrSyntax", laid_strconv_ErrSyntax)] }
def SuffixTellsSaid : Prop := suffixTellsRow.holds Tryd.pinned (OpenSpec.ofChange suffixTellsSpec)

/-- ITS FALSE NEIGHBOUR: 'it returns false'. Refute it at one input. -/
def suffixTellsWrong : ChangeSpec := { name := "suffixTells", fn := fun _ => fun
  | [d1, d2] => { results := [.lit (.bool false)], args := [d1, d2] }
  | _ => none }
def SuffixTellsWrongFalsely : Prop := suffixTellsRow.holds Tryd.pinned (OpenSpec.ofChange suffixTellsWrong)

/-- 'gingersnaplaw.OwnerTwice': WHATEVER THE INPUT: true; the input reads as it did. -/
def ownerTwiceSpec : ChangeSpec := { name := "ownerTwice", fn := fun _ => fun
  | [d1, d2] => { results := [.lit (.bool true)], args := [d1, d2] }
  | _ => none }
def ownerTwiceRow : OpenClaim := { program := "ytkgdkpiacencjaadoor", sum := "69c377491721200ecf18ac468c27d5d35bc80b246196bac347a2f6b09234cc2d", func := "gingersnap/gingersnaplaw.OwnerTwice", spec := "ownerTwice", inPlace := ["internal/bytealg.IndexByteString"], unfollowed := true, recurses := true, named := ["strconv.ErrSyntax", "strconv.ErrRange", "internal/strconv.uint64pow10", "math/bits.deBruijn32tab", "math/bits.deBruijn64tab"], plainKeys := false, apart := false, laid := [("math/bits.deBruijn32tab", laid_math_bits_deBruijn32tab), ("math/bits.deBruijn64tab", laid_math_bits_deBruijn64tab), ("internal/strconv.uint64pow10", laid_internal_strconv_uint64pow10), ("strconv.ErrRange", laid_strconv_ErrRange), ("strconv.ErrSyntax", laid_strconv_ErrSyntax)] }
def OwnerTwiceSaid : Prop := ownerTwiceRow.holds Tryd.pinned (OpenSpec.ofChange ownerTwiceSpec)

/-- ITS FALSE NEIGHBOUR: 'it returns false'. Refute it at one input. -/
def ownerTwiceWrong : ChangeSpec := { name := "ownerTwice", fn := fun _ => fun
  | [d1, d2] => { results := [.lit (.bool false)], args := [d1, d2] }
  | _ => none }
def OwnerTwiceWrongFalsely : Prop := ownerTwiceRow.holds Tryd.pinned (OpenSpec.ofChange ownerTwiceWrong)

/-- 'gingersnaplaw.OwnerSame': WHATEVER THE INPUT: true; the input reads as it did. -/
def ownerSameSpec : ChangeSpec := { name := "ownerSame", fn := fun _ => fun
  | [d1, d2, d3] => { results := [.lit (.bool true)], args := [d1, d2, d3] }
  | _ => none }
def ownerSameRow : OpenClaim := { program := "ytkgdkpiacencjaadoor", sum := "69c377491721200ecf18ac468c27d5d35bc80b246196bac347a2f6b09234cc2d", func := "gingersnap/gingersnaplaw.OwnerSame", spec := "ownerSame", inPlace := ["internal/bytealg.IndexByteString"], unfollowed := true, recurses := true, named := ["strconv.ErrSyntax", "strconv.ErrRange", "internal/strconv.uint64pow10", "math/bits.deBruijn32tab", "math/bits.deBruijn64tab"], plainKeys := false, apart := false, laid := [("math/bits.deBruijn32tab", laid_math_bits_deBruijn32tab), ("math/bits.deBruijn64tab", laid_math_bits_deBruijn64tab), ("internal/strconv.uint64pow10", laid_internal_strconv_uint64pow10), ("strconv.ErrRange", laid_strconv_ErrRange), ("strconv.ErrSyntax", laid_strconv_ErrSyntax)] }
def OwnerSameSaid : Prop := ownerSameRow.holds Tryd.pinned (OpenSpec.ofChange ownerSameSpec)

/-- ITS FALSE NEIGHBOUR: 'it returns false'. Refute it at one input. -/
def ownerSameWrong : ChangeSpec := { name := "ownerSame", fn := fun _ => fun
  | [d1, d2, d3] => { results := [.lit (.bool false)], args := [d1, d2, d3] }
  | _ => none }
def OwnerSameWrongFalsely : Prop := ownerSameRow.holds Tryd.pinned (OpenSpec.ofChange ownerSameWrong)

/- THE SECOND FORM. 'bulk': how many values and letters a reading holds, each counted each time it is reached (what is shared counts as often as it is met; a slice's spare places count too). A statement '..UptoSaid' is the law's where the arguments, and the package variables that the reading takes, are together of bulk at most 1048576: NARROWER than '..Said'. Prove '..Said' where nothing that the law and all that it calls make is longer than what came in: it says more and counts as full. Else prove '..UptoSaid'. A law counts once. -/
mutual
def uptoBulk {H : Type} : DataW H → Nat
  | .lit (.string bytes) => bytes.length + 1
  | .lit _ => 1
  | .nil => 1
  | .ptr d => uptoBulk d + 1
  | .slice elems spare => uptoBulkAll elems + uptoBulkAll spare + 1
  | .agg parts => uptoBulkAll parts + 1
  | .iface _ d => uptoBulk d + 1
  | .map entries => uptoBulkEntries entries + 1
  | .held _ => 1
def uptoBulkAll {H : Type} : List (DataW H) → Nat
  | [] => 0
  | d :: r => uptoBulk d + uptoBulkAll r
def uptoBulkEntries {H : Type} : List (Lit × DataW H) → Nat
  | [] => 0
  | x :: r => uptoBulkEntry x + uptoBulkEntries r
def uptoBulkEntry {H : Type} : Lit × DataW H → Nat
  | (.string bytes, d) => bytes.length + uptoBulk d + 1
  | (_, d) => uptoBulk d + 1
 end
def uptoSmall : (H : Type) → List (DataW H) → Bool := fun _ ds => decide (uptoBulkAll ds ≤ 1048576)
def OpenSpec.upto (s : _root_.Go.ChangeSpec) : _root_.Go.OpenSpec := { _root_.Go.OpenSpec.ofChange s with cond := some uptoSmall }

/-- 'gingersnaplaw.GoesTells', WHERE WHAT IT READS IS OF BULK AT MOST 1048576: true; the input reads as it did. -/
def goesTellsUptoRow : OpenClaim := { program := "ytkgdkpiacencjaadoor", sum := "69c377491721200ecf18ac468c27d5d35bc80b246196bac347a2f6b09234cc2d", func := "gingersnap/gingersnaplaw.GoesTells", spec := "goesTells", inPlace := ["internal/bytealg.IndexByteString"], unfollowed := true, recurses := true, named := ["strconv.ErrSyntax", "strconv.ErrRange", "internal/strconv.uint64pow10", "math/bits.deBruijn32tab", "math/bits.deBruijn64tab"], plainKeys := false, apart := false, laid := [("math/bits.deBruijn32tab", laid_math_bits_deBruijn32tab), ("math/bits.deBruijn64tab", laid_math_bits_deBruijn64tab), ("internal/strconv.uint64pow10", laid_internal_strconv_uint64pow10), ("strconv.ErrRange", laid_strconv_ErrRange), ("strconv.ErrSyntax", laid_strconv_ErrSyntax)], narrowed := true }
def GoesTellsUptoSaid : Prop := goesTellsUptoRow.holds Tryd.pinned (OpenSpec.upto goesTellsSpec)

/-- 'gingersnaplaw.GoesLess', WHERE WHAT IT READS IS OF BULK AT MOST 1048576: true; the input reads as it did. -/
def goesLessUptoRow : OpenClaim := { program := "ytkgdkpiacencjaadoor", sum := "69c377491721200ecf18ac468c27d5d35bc80b246196bac347a2f6b09234cc2d", func := "gingersnap/gingersnaplaw.GoesLess", spec := "goesLess", inPlace := ["internal/bytealg.IndexByteString"], unfollowed := true, recurses := true, named := ["strconv.ErrSyntax", "strconv.ErrRange", "internal/strconv.uint64pow10", "math/bits.deBruijn32tab", "math/bits.deBruijn64tab"], plainKeys := false, apart := false, laid := [("math/bits.deBruijn32tab", laid_math_bits_deBruijn32tab), ("math/bits.deBruijn64tab", laid_math_bits_deBruijn64tab), ("internal/strconv.uint64pow10", laid_internal_strconv_uint64pow10), ("strconv.ErrRange", laid_strconv_ErrRange), ("strconv.ErrSyntax", laid_strconv_ErrSyntax)], narrowed := true }
def GoesLessUptoSaid : Prop := goesLessUptoRow.holds Tryd.pinned (OpenSpec.upto goesLessSpec)

/-- 'gingersnaplaw.GoesDeeper', WHERE WHAT IT READS IS OF BULK AT MOST 1048576: true; the input reads as it did. -/
def goesDeeperUptoRow : OpenClaim := { program := "ytkgdkpiacencjaadoor", sum := "69c377491721200ecf18ac468c27d5d35bc80b246196bac347a2f6b09234cc2d", func := "gingersnap/gingersnaplaw.GoesDeeper", spec := "goesDeeper", inPlace := ["internal/bytealg.IndexByteString"], unfollowed := true, recurses := true, named := ["strconv.ErrSyntax", "strconv.ErrRange", "internal/strconv.uint64pow10", "math/bits.deBruijn32tab", "math/bits.deBruijn64tab"], plainKeys := false, apart := false, laid := [("math/bits.deBruijn32tab", laid_math_bits_deBruijn32tab), ("math/bits.deBruijn64tab", laid_math_bits_deBruijn64tab), ("internal/strconv.uint64pow10", laid_internal_strconv_uint64pow10), ("strconv.ErrRange", laid_strconv_ErrRange), ("strconv.ErrSyntax", laid_strconv_ErrSyntax)], narrowed := true }
def GoesDeeperUptoSaid : Prop := goesDeeperUptoRow.holds Tryd.pinned (OpenSpec.upto goesDeeperSpec)

/-- 'gingersnaplaw.HostTells', WHERE WHAT IT READS IS OF BULK AT MOST 1048576: true; the input reads as it did. -/
def hostTellsUptoRow : OpenClaim := { program := "ytkgdkpiacencjaadoor", sum := "69c377491721200ecf18ac468c27d5d35bc80b246196bac347a2f6b09234cc2d", func := "gingersnap/gingersnaplaw.HostTells", spec := "hostTells", inPlace := ["internal/bytealg.IndexByteString"], unfollowed := true, recurses := true, named := ["strconv.ErrSyntax", "strconv.ErrRange", "internal/strconv.uint64pow10", "math/bits.deBruijn32tab", "math/bits.deBruijn64tab"], plainKeys := false, apart := false, laid := [("math/bits.deBruijn32tab", laid_math_bits_deBruijn32tab), ("math/bits.deBruijn64tab", laid_math_bits_deBruijn64tab), ("internal/strconv.uint64pow10", laid_internal_strconv_uint64pow10), ("strconv.ErrRange", laid_strconv_ErrRange), ("strconv.ErrSyntax", laid_strconv_ErrSyntax)], narrowed := true }
def HostTellsUptoSaid : Prop := hostTellsUptoRow.holds Tryd.pinned (OpenSpec.upto hostTellsSpec)

/-- 'gingersnaplaw.HostTwice', WHERE WHAT IT READS IS OF BULK AT MOST 1048576: true; the input reads as it did. -/
def hostTwiceUptoRow : OpenClaim := { program := "ytkgdkpiacencjaadoor", sum := "69c377491721200ecf18ac468c27d5d35bc80b246196bac347a2f6b09234cc2d", func := "gingersnap/gingersnaplaw.HostTwice", spec := "hostTwice", inPlace := ["internal/bytealg.IndexByteString"], unfollowed := true, recurses := true, named := ["strconv.ErrSyntax", "strconv.ErrRange", "internal/strconv.uint64pow10", "math/bits.deBruijn32tab", "math/bits.deBruijn64tab"], plainKeys := false, apart := false, laid := [("math/bits.deBruijn32tab", laid_math_bits_deBruijn32tab), ("math/bits.deBruijn64tab", laid_math_bits_deBruijn64tab), ("internal/strconv.uint64pow10", laid_internal_strconv_uint64pow10), ("strconv.ErrRange", laid_strconv_ErrRange), ("strconv.ErrSyntax", laid_strconv_ErrSyntax)], narrowed := true }
def HostTwiceUptoSaid : Prop := hostTwiceUptoRow.holds Tryd.pinned (OpenSpec.upto hostTwiceSpec)

/-- 'gingersnaplaw.MatchOrder', WHERE WHAT IT READS IS OF BULK AT MOST 1048576: true; the input reads as it did. -/
def matchOrderUptoRow : OpenClaim := { program := "ytkgdkpiacencjaadoor", sum := "69c377491721200ecf18ac468c27d5d35bc80b246196bac347a2f6b09234cc2d", func := "gingersnap/gingersnaplaw.MatchOrder", spec := "matchOrder", inPlace := ["internal/bytealg.IndexByteString"], unfollowed := true, recurses := true, named := ["strconv.ErrSyntax", "strconv.ErrRange", "internal/strconv.uint64pow10", "math/bits.deBruijn32tab", "math/bits.deBruijn64tab"], plainKeys := false, apart := false, laid := [("math/bits.deBruijn32tab", laid_math_bits_deBruijn32tab), ("math/bits.deBruijn64tab", laid_math_bits_deBruijn64tab), ("internal/strconv.uint64pow10", laid_internal_strconv_uint64pow10), ("strconv.ErrRange", laid_strconv_ErrRange), ("strconv.ErrSyntax", laid_strconv_ErrSyntax)], narrowed := true }
def MatchOrderUptoSaid : Prop := matchOrderUptoRow.holds Tryd.pinned (OpenSpec.upto matchOrderSpec)

/-- 'gingersnaplaw.MatchChain', WHERE WHAT IT READS IS OF BULK AT MOST 1048576: true; the input reads as it did. -/
def matchChainUptoRow : OpenClaim := { program := "ytkgdkpiacencjaadoor", sum := "69c377491721200ecf18ac468c27d5d35bc80b246196bac347a2f6b09234cc2d", func := "gingersnap/gingersnaplaw.MatchChain", spec := "matchChain", inPlace := ["internal/bytealg.IndexByteString"], unfollowed := true, recurses := true, named := ["strconv.ErrSyntax", "strconv.ErrRange", "internal/strconv.uint64pow10", "math/bits.deBruijn32tab", "math/bits.deBruijn64tab"], plainKeys := false, apart := false, laid := [("math/bits.deBruijn32tab", laid_math_bits_deBruijn32tab), ("math/bits.deBruijn64tab", laid_math_bits_deBruijn64tab), ("internal/strconv.uint64pow10", laid_internal_strconv_uint64pow10), ("strconv.ErrRange", laid_strconv_ErrRange), ("strconv.ErrSyntax", laid_strconv_ErrSyntax)], narrowed := true }
def MatchChainUptoSaid : Prop := matchChainUptoRow.holds Tryd.pinned (OpenSpec.upto matchChainSpec)

/-- 'gingersnaplaw.SuffixTells', WHERE WHAT IT READS IS OF BULK AT MOST 1048576: true; the input reads as it did. -/
def suffixTellsUptoRow : OpenClaim := { program := "ytkgdkpiacencjaadoor", sum := "69c377491721200ecf18ac468c27d5d35bc80b246196bac347a2f6b09234cc2d", func := "gingersnap/gingersnaplaw.SuffixTells", spec := "suffixTells", inPlace := ["internal/bytealg.IndexByteString"], unfollowed := true, recurses := true, named := ["strconv.ErrSyntax", "strconv.ErrRange", "internal/strconv.uint64pow10", "math/bits.deBruijn32tab", "math/bits.deBruijn64tab"], plainKeys := false, apart := false, laid := [("math/bits.deBruijn32tab", laid_math_bits_deBruijn32tab), ("math/bits.deBruijn64tab", laid_math_bits_deBruijn64tab), ("internal/strconv.uint64pow10", laid_internal_strconv_uint64pow10), ("strconv.ErrRange", laid_strconv_ErrRange), ("strconv.ErrSyntax", laid_strconv_ErrSyntax)], narrowed := true }
def SuffixTellsUptoSaid : Prop := suffixTellsUptoRow.holds Tryd.pinned (OpenSpec.upto suffixTellsSpec)

/-- 'gingersnaplaw.OwnerTwice', WHERE WHAT IT READS IS OF BULK AT MOST 1048576: true; the input reads as it did. -/
def ownerTwiceUptoRow : OpenClaim := { program := "ytkgdkpiacencjaadoor", sum := "69c377491721200ecf18ac468c27d5d35bc80b246196bac347a2f6b09234cc2d", func := "gingersnap/gingersnaplaw.OwnerTwice", spec := "ownerTwice", inPlace := ["internal/bytealg.IndexByteString"], unfollowed := true, recurses := true, named := ["strconv.ErrSyntax", "strconv.ErrRange", "internal/strconv.uint64pow10", "math/bits.deBruijn32tab", "math/bits.deBruijn64tab"], plainKeys := false, apart := false, laid := [("math/bits.deBruijn32tab", laid_math_bits_deBruijn32tab), ("math/bits.deBruijn64tab", laid_math_bits_deBruijn64tab), ("internal/strconv.uint64pow10", laid_internal_strconv_uint64pow10), ("strconv.ErrRange", laid_strconv_ErrRange), ("strconv.ErrSyntax", laid_strconv_ErrSyntax)], narrowed := true }
def OwnerTwiceUptoSaid : Prop := ownerTwiceUptoRow.holds Tryd.pinned (OpenSpec.upto ownerTwiceSpec)

/-- 'gingersnaplaw.OwnerSame', WHERE WHAT IT READS IS OF BULK AT MOST 1048576: true; the input reads as it did. -/
def ownerSameUptoRow : OpenClaim := { program := "ytkgdkpiacencjaadoor", sum := "69c377491721200ecf18ac468c27d5d35bc80b246196bac347a2f6b09234cc2d", func := "gingersnap/gingersnaplaw.OwnerSame", spec := "ownerSame", inPlace := ["internal/bytealg.IndexByteString"], unfollowed := true, recurses := true, named := ["strconv.ErrSyntax", "strconv.ErrRange", "internal/strconv.uint64pow10", "math/bits.deBruijn32tab", "math/bits.deBruijn64tab"], plainKeys := false, apart := false, laid := [("math/bits.deBruijn32tab", laid_math_bits_deBruijn32tab), ("math/bits.deBruijn64tab", laid_math_bits_deBruijn64tab), ("internal/strconv.uint64pow10", laid_internal_strconv_uint64pow10), ("strconv.ErrRange", laid_strconv_ErrRange), ("strconv.ErrSyntax", laid_strconv_ErrSyntax)], narrowed := true }
def OwnerSameUptoSaid : Prop := ownerSameUptoRow.holds Tryd.pinned (OpenSpec.upto ownerSameSpec)

end Rows
end Go.Proofs.YtkgdkpiacencjaaDoor
