/-
  NARROWER THAN 'FOR EVERY INPUT', by the rows' own cells (each row's printed sentence says how): TellTells: laid · TellUnlike: laid · TellLines: laid · HistBack: laid · HistTells: laid · HistJoins: laid · ReadTells: laid · ReadRight: laid · ReadJoins: laid · ReadMany: laid · NumTells: laid · NumBack: laid · NumSpans: laid · ShowTells: laid · ShowBack: laid · ShowJoins: laid.
  DERIVED. THE GIVEN ROWS OF THIS SEAT. 16 by the template 'for every input the law returns true; each argument reads behind the call as it read before'; 0 by the template 'total and deterministic' (their statements: YtcabnjinfkjnjaaDoorTotals.lean).
  GIVEN WITH THE SEED: the statements are not yours to turn. If you find one false, say at which input.
  Laid BY PROGRAM, IN A SANDBOX (cutbox-rows.mjs): the forced cells as the released guide's own fill.sh prints them over the translation 7723241cdef92abf… (all of the seat's roots in one cut). By AI agents, Wed Nov 11 2026. No macro, syntax, notation, axiom, sorry.
-/
import Derived.Test.YtcabnjinfkjnjaaDoorChecked
import GoSem.PinnedTables
import GoSem.Claim
import GoSem.ClaimJoined
import GoSem.ClaimMapViews
import Derived.JoinedTies
import Derived.KernelRfl
namespace Go.Proofs.YtcabnjinfkjnjaaDoor
/- THE CELL 'sum', in the pinned program and in every row, IS THE sha256 OF THE DUMP (.gsa) THAT YtcabnjinfkjnjaaDoorProg.lean LOADS. Nothing in Lean hashes anything: it is a label: what it is worth is what the hold of that sum in a sandbox is worth. -/
noncomputable def Tryd.pinned : Pinned := { name := "ytcabnjinfkjnjaadoor", sum := "7723241cdef92abf2cdea2b5d5604ab0821ec3b16a44ca66ca3bc29df62e31b1", checked := Tryd.checked }
namespace Rows
def none {H : Type} : Left H := { results := [], args := [] }

/- WHAT THE LISTED PACKAGE-LEVEL VARIABLES READ AS WHEN THE CALL BEGINS. Each datum BY PROGRAM (the guide's laid-datum.mjs) off the statement by which the dump's own 'gosem.cut.vars' lays the variable. In a bare row this is a premise. The card (YtcabnjinfkjnjaaDoorCards.lean) ties it to the program's text. -/
def laid_math_bits_deBruijn32tab {H : Type} : DataW H := .agg [.lit (.int .u8 0), .lit (.int .u8 1), .lit (.int .u8 28), .lit (.int .u8 2), .lit (.int .u8 29), .lit (.int .u8 14), .lit (.int .u8 24), .lit (.int .u8 3), .lit (.int .u8 30), .lit (.int .u8 22), .lit (.int .u8 20), .lit (.int .u8 15), .lit (.int .u8 25), .lit (.int .u8 17), .lit (.int .u8 4), .lit (.int .u8 8), .lit (.int .u8 31), .lit (.int .u8 27), .lit (.int .u8 13), .lit (.int .u8 23), .lit (.int .u8 21), .lit (.int .u8 19), .lit (.int .u8 16), .lit (.int .u8 7), .lit (.int .u8 26), .lit (.int .u8 12), .lit (.int .u8 18), .lit (.int .u8 6), .lit (.int .u8 11), .lit (.int .u8 5), .lit (.int .u8 10), .lit (.int .u8 9)]
def laid_math_bits_deBruijn64tab {H : Type} : DataW H := .agg [.lit (.int .u8 0), .lit (.int .u8 1), .lit (.int .u8 56), .lit (.int .u8 2), .lit (.int .u8 57), .lit (.int .u8 49), .lit (.int .u8 28), .lit (.int .u8 3), .lit (.int .u8 61), .lit (.int .u8 58), .lit (.int .u8 42), .lit (.int .u8 50), .lit (.int .u8 38), .lit (.int .u8 29), .lit (.int .u8 17), .lit (.int .u8 4), .lit (.int .u8 62), .lit (.int .u8 47), .lit (.int .u8 59), .lit (.int .u8 36), .lit (.int .u8 45), .lit (.int .u8 43), .lit (.int .u8 51), .lit (.int .u8 22), .lit (.int .u8 53), .lit (.int .u8 39), .lit (.int .u8 33), .lit (.int .u8 30), .lit (.int .u8 24), .lit (.int .u8 18), .lit (.int .u8 12), .lit (.int .u8 5), .lit (.int .u8 63), .lit (.int .u8 55), .lit (.int .u8 48), .lit (.int .u8 27), .lit (.int .u8 60), .lit (.int .u8 41), .lit (.int .u8 37), .lit (.int .u8 16), .lit (.int .u8 46), .lit (.int .u8 35), .lit (.int .u8 44), .lit (.int .u8 21), .lit (.int .u8 52), .lit (.int .u8 32), .lit (.int .u8 23), .lit (.int .u8 11), .lit (.int .u8 54), .lit (.int .u8 26), .lit (.int .u8 40), .lit (.int .u8 15), .lit (.int .u8 34), .lit (.int .u8 20), .lit (.int .u8 31), .lit (.int .u8 10), .lit (.int .u8 25), .lit (.int .u8 14), .lit (.int .u8 19), .lit (.int .u8 9), .lit (.int .u8 13), .lit (.int .u8 8), .lit (.int .u8 7), .lit (.int .u8 6)]
def laid_internal_strconv_uint64pow10 {H : Type} : DataW H := .agg [.lit (.int .u64 1), .lit (.int .u64 10), .lit (.int .u64 100), .lit (.int .u64 1000), .lit (.int .u64 10000), .lit (.int .u64 100000), .lit (.int .u64 1000000), .lit (.int .u64 10000000), .lit (.int .u64 100000000), .lit (.int .u64 1000000000), .lit (.int .u64 10000000000), .lit (.int .u64 100000000000), .lit (.int .u64 1000000000000), .lit (.int .u64 10000000000000), .lit (.int .u64 100000000000000), .lit (.int .u64 1000000000000000), .lit (.int .u64 10000000000000000), .lit (.int .u64 100000000000000000), .lit (.int .u64 1000000000000000000), .lit (.int .u64 10000000000000000000)]
def laid_unicode_utf8_acceptRanges {H : Type} : DataW H := .agg [.agg [.lit (.int .u8 128), .lit (.int .u8 191)], .agg [.lit (.int .u8 160), .lit (.int .u8 191)], .agg [.lit (.int .u8 128), .lit (.int .u8 159)], .agg [.lit (.int .u8 144), .lit (.int .u8 191)], .agg [.lit (.int .u8 128), .lit (.int .u8 143)], .agg [.lit (.int .u8 0), .lit (.int .u8 0)], .agg [.lit (.int .u8 0), .lit (.int .u8 0)], .agg [.lit (.int .u8 0), .lit (.int .u8 0)], .agg [.lit (.int .u8 0), .lit (.int .u8 0)], .agg [.lit (.int .u8 0), .lit (.int .u8 0)], .agg [.lit (.int .u8 0), .lit (.int .u8 0)], .agg [.lit (.int .u8 0), .lit (.int .u8 0)], .agg [.lit (.int .u8 0), .lit (.int .u8 0)], .agg [.lit (.int .u8 0), .lit (.int .u8 0)], .agg [.lit (.int .u8 0), .lit (.int .u8 0)], .agg [.lit (.int .u8 0), .lit (.int .u8 0)]]
/-- One of Go's own tables, pinned by name: the form's constant. -/
def laid_unicode_utf8_first : DataW Unit := Go.Pinned.utf8First

/-- 'eyewitnesslaw26.TellTells': WHATEVER THE INPUT: true; the input reads as it did. -/
def tellTellsSpec : ChangeSpec := { name := "tellTells", fn := fun _ => fun
  | [d1, d2, d3] => { results := [.lit (.bool true)], args := [d1, d2, d3] }
  | _ => none }
def tellTellsRow : OpenClaim := { program := "ytcabnjinfkjnjaadoor", sum := "7723241cdef92abf2cdea2b5d5604ab0821ec3b16a44ca66ca3bc29df62e31b1", func := "eyewitness/eyewitnesslaw26.TellTells", spec := "tellTells", inPlace := ["internal/abi.NoEscape", "internal/bytealg.MakeNoZero"], named := ["internal/strconv.uint64pow10", "math/bits.deBruijn32tab", "math/bits.deBruijn64tab"], apart := false, laid := [("math/bits.deBruijn32tab", laid_math_bits_deBruijn32tab), ("math/bits.deBruijn64tab", laid_math_bits_deBruijn64tab), ("internal/strconv.uint64pow10", laid_internal_strconv_uint64pow10)] }
def TellTellsSaid : Prop := tellTellsRow.holds Tryd.pinned (OpenSpec.ofChange tellTellsSpec)

/-- ITS FALSE NEIGHBOUR: 'it returns false'. Refute it at one input. -/
def tellTellsWrong : ChangeSpec := { name := "tellTells", fn := fun _ => fun
  | [d1, d2, d3] => { results := [.lit (.bool false)], args := [d1, d2, d3] }
  | _ => none }
def TellTellsWrongFalsely : Prop := tellTellsRow.holds Tryd.pinned (OpenSpec.ofChange tellTellsWrong)

/-- 'eyewitnesslaw26.TellUnlike': WHATEVER THE INPUT: true; the input reads as it did. -/
def tellUnlikeSpec : ChangeSpec := { name := "tellUnlike", fn := fun _ => fun
  | [d] => { results := [.lit (.bool true)], args := [d] }
  | _ => none }
def tellUnlikeRow : OpenClaim := { program := "ytcabnjinfkjnjaadoor", sum := "7723241cdef92abf2cdea2b5d5604ab0821ec3b16a44ca66ca3bc29df62e31b1", func := "eyewitness/eyewitnesslaw26.TellUnlike", spec := "tellUnlike", inPlace := ["internal/abi.NoEscape", "internal/bytealg.MakeNoZero"], named := ["internal/strconv.uint64pow10", "math/bits.deBruijn32tab", "math/bits.deBruijn64tab"], apart := false, laid := [("math/bits.deBruijn32tab", laid_math_bits_deBruijn32tab), ("math/bits.deBruijn64tab", laid_math_bits_deBruijn64tab), ("internal/strconv.uint64pow10", laid_internal_strconv_uint64pow10)] }
def TellUnlikeSaid : Prop := tellUnlikeRow.holds Tryd.pinned (OpenSpec.ofChange tellUnlikeSpec)

/-- ITS FALSE NEIGHBOUR: 'it returns false'. Refute it at one input. -/
def tellUnlikeWrong : ChangeSpec := { name := "tellUnlike", fn := fun _ => fun
  | [d] => { results := [.lit (.bool false)], args := [d] }
  | _ => none }
def TellUnlikeWrongFalsely : Prop := tellUnlikeRow.holds Tryd.pinned (OpenSpec.ofChange tellUnlikeWrong)

/-- 'eyewitnesslaw26.TellLines': WHATEVER THE INPUT: true; the input reads as it did. -/
def tellLinesSpec : ChangeSpec := { name := "tellLines", fn := fun _ => fun
  | [d1, d2, d3] => { results := [.lit (.bool true)], args := [d1, d2, d3] }
  | _ => none }
def tellLinesRow : OpenClaim := { program := "ytcabnjinfkjnjaadoor", sum := "7723241cdef92abf2cdea2b5d5604ab0821ec3b16a44ca66ca3bc29df62e31b1", func := "eyewitness/eyewitnesslaw26.TellLines", spec := "tellLines", inPlace := ["internal/abi.NoEscape", "internal/bytealg.MakeNoZero"], named := ["internal/strconv.uint64pow10", "math/bits.deBruijn32tab", "math/bits.deBruijn64tab"], apart := false, laid := [("math/bits.deBruijn32tab", laid_math_bits_deBruijn32tab), ("math/bits.deBruijn64tab", laid_math_bits_deBruijn64tab), ("internal/strconv.uint64pow10", laid_internal_strconv_uint64pow10)] }
def TellLinesSaid : Prop := tellLinesRow.holds Tryd.pinned (OpenSpec.ofChange tellLinesSpec)

/-- ITS FALSE NEIGHBOUR: 'it returns false'. Refute it at one input. -/
def tellLinesWrong : ChangeSpec := { name := "tellLines", fn := fun _ => fun
  | [d1, d2, d3] => { results := [.lit (.bool false)], args := [d1, d2, d3] }
  | _ => none }
def TellLinesWrongFalsely : Prop := tellLinesRow.holds Tryd.pinned (OpenSpec.ofChange tellLinesWrong)

/-- 'eyewitnesslaw06.HistBack': WHATEVER THE INPUT: true; the input reads as it did. -/
def histBackSpec : ChangeSpec := { name := "histBack", fn := fun _ => fun
  | [d] => { results := [.lit (.bool true)], args := [d] }
  | _ => none }
def histBackRow : OpenClaim := { program := "ytcabnjinfkjnjaadoor", sum := "7723241cdef92abf2cdea2b5d5604ab0821ec3b16a44ca66ca3bc29df62e31b1", func := "eyewitness/eyewitnesslaw06.HistBack", spec := "histBack", inPlace := ["internal/bytealg.IndexByteString", "internal/bytealg.IndexString"], unfollowed := true, recurses := true, named := ["unicode/utf8.first", "unicode/utf8.acceptRanges", "internal/bytealg.MaxLen"], apart := false, laid := [("unicode/utf8.acceptRanges", laid_unicode_utf8_acceptRanges), ("unicode/utf8.first", laid_unicode_utf8_first)] }
def HistBackSaid : Prop := histBackRow.holds Tryd.pinned (OpenSpec.ofChange histBackSpec)

/-- ITS FALSE NEIGHBOUR: 'it returns false'. Refute it at one input. -/
def histBackWrong : ChangeSpec := { name := "histBack", fn := fun _ => fun
  | [d] => { results := [.lit (.bool false)], args := [d] }
  | _ => none }
def HistBackWrongFalsely : Prop := histBackRow.holds Tryd.pinned (OpenSpec.ofChange histBackWrong)

/-- 'eyewitnesslaw06.HistTells': WHATEVER THE INPUT: true; the input reads as it did. -/
def histTellsSpec : ChangeSpec := { name := "histTells", fn := fun _ => fun
  | [d] => { results := [.lit (.bool true)], args := [d] }
  | _ => none }
def histTellsRow : OpenClaim := { program := "ytcabnjinfkjnjaadoor", sum := "7723241cdef92abf2cdea2b5d5604ab0821ec3b16a44ca66ca3bc29df62e31b1", func := "eyewitness/eyewitnesslaw06.HistTells", spec := "histTells", inPlace := ["internal/bytealg.IndexByteString", "internal/bytealg.IndexString"], unfollowed := true, recurses := true, named := ["unicode/utf8.first", "unicode/utf8.acceptRanges", "internal/bytealg.MaxLen"], apart := false, laid := [("unicode/utf8.acceptRanges", laid_unicode_utf8_acceptRanges), ("unicode/utf8.first", laid_unicode_utf8_first)] }
def HistTellsSaid : Prop := histTellsRow.holds Tryd.pinned (OpenSpec.ofChange histTellsSpec)

/-- ITS FALSE NEIGHBOUR: 'it returns false'. Refute it at one input. -/
def histTellsWrong : ChangeSpec := { name := "histTells", fn := fun _ => fun
  | [d] => { results := [.lit (.bool false)], args := [d] }
  | _ => none }
def HistTellsWrongFalsely : Prop := histTellsRow.holds Tryd.pinned (OpenSpec.ofChange histTellsWrong)

/-- 'eyewitnesslaw06.HistJoins': WHATEVER THE INPUT: true; the input reads as it did. -/
def histJoinsSpec : ChangeSpec := { name := "histJoins", fn := fun _ => fun
  | [d1, d2] => { results := [.lit (.bool true)], args := [d1, d2] }
  | _ => none }
def histJoinsRow : OpenClaim := { program := "ytcabnjinfkjnjaadoor", sum := "7723241cdef92abf2cdea2b5d5604ab0821ec3b16a44ca66ca3bc29df62e31b1", func := "eyewitness/eyewitnesslaw06.HistJoins", spec := "histJoins", inPlace := ["internal/bytealg.IndexByteString", "internal/bytealg.IndexString"], unfollowed := true, recurses := true, named := ["unicode/utf8.first", "unicode/utf8.acceptRanges", "internal/bytealg.MaxLen"], apart := false, laid := [("unicode/utf8.acceptRanges", laid_unicode_utf8_acceptRanges), ("unicode/utf8.first", laid_unicode_utf8_first)] }
def HistJoinsSaid : Prop := histJoinsRow.holds Tryd.pinned (OpenSpec.ofChange histJoinsSpec)

/-- ITS FALSE NEIGHBOUR: 'it returns false'. Refute it at one input. -/
def histJoinsWrong : ChangeSpec := { name := "histJoins", fn := fun _ => fun
  | [d1, d2] => { results := [.lit (.bool false)], args := [d1, d2] }
  | _ => none }
def HistJoinsWrongFalsely : Prop := histJoinsRow.holds Tryd.pinned (OpenSpec.ofChange histJoinsWrong)

/-- 'eyewitnesslaw07.ReadTells': WHATEVER THE INPUT: true; the input reads as it did. -/
def readTellsSpec : ChangeSpec := { name := "readTells", fn := fun _ => fun
  | [d] => { results := [.lit (.bool true)], args := [d] }
  | _ => none }
def readTellsRow : OpenClaim := { program := "ytcabnjinfkjnjaadoor", sum := "7723241cdef92abf2cdea2b5d5604ab0821ec3b16a44ca66ca3bc29df62e31b1", func := "eyewitness/eyewitnesslaw07.ReadTells", spec := "readTells", inPlace := ["internal/bytealg.IndexByteString", "internal/bytealg.IndexString"], named := ["unicode/utf8.first", "unicode/utf8.acceptRanges", "internal/bytealg.MaxLen"], apart := false, laid := [("unicode/utf8.acceptRanges", laid_unicode_utf8_acceptRanges), ("unicode/utf8.first", laid_unicode_utf8_first)] }
def ReadTellsSaid : Prop := readTellsRow.holds Tryd.pinned (OpenSpec.ofChange readTellsSpec)

/-- ITS FALSE NEIGHBOUR: 'it returns false'. Refute it at one input. -/
def readTellsWrong : ChangeSpec := { name := "readTells", fn := fun _ => fun
  | [d] => { results := [.lit (.bool false)], args := [d] }
  | _ => none }
def ReadTellsWrongFalsely : Prop := readTellsRow.holds Tryd.pinned (OpenSpec.ofChange readTellsWrong)

/-- 'eyewitnesslaw07.ReadRight': WHATEVER THE INPUT: true; the input reads as it did. -/
def readRightSpec : ChangeSpec := { name := "readRight", fn := fun _ => fun
  | [d] => { results := [.lit (.bool true)], args := [d] }
  | _ => none }
def readRightRow : OpenClaim := { program := "ytcabnjinfkjnjaadoor", sum := "7723241cdef92abf2cdea2b5d5604ab0821ec3b16a44ca66ca3bc29df62e31b1", func := "eyewitness/eyewitnesslaw07.ReadRight", spec := "readRight", inPlace := ["internal/bytealg.IndexByteString", "internal/bytealg.IndexString"], named := ["unicode/utf8.first", "unicode/utf8.acceptRanges", "internal/bytealg.MaxLen"], apart := false, laid := [("unicode/utf8.acceptRanges", laid_unicode_utf8_acceptRanges), ("unicode/utf8.first", laid_unicode_utf8_first)] }
def ReadRightSaid : Prop := readRightRow.holds Tryd.pinned (OpenSpec.ofChange readRightSpec)

/-- ITS FALSE NEIGHBOUR: 'it returns false'. Refute it at one input. -/
def readRightWrong : ChangeSpec := { name := "readRight", fn := fun _ => fun
  | [d] => { results := [.lit (.bool false)], args := [d] }
  | _ => none }
def ReadRightWrongFalsely : Prop := readRightRow.holds Tryd.pinned (OpenSpec.ofChange readRightWrong)

/-- 'eyewitnesslaw07.ReadJoins': WHATEVER THE INPUT: true; the input reads as it did. -/
def readJoinsSpec : ChangeSpec := { name := "readJoins", fn := fun _ => fun
  | [d1, d2] => { results := [.lit (.bool true)], args := [d1, d2] }
  | _ => none }
def readJoinsRow : OpenClaim := { program := "ytcabnjinfkjnjaadoor", sum := "7723241cdef92abf2cdea2b5d5604ab0821ec3b16a44ca66ca3bc29df62e31b1", func := "eyewitness/eyewitnesslaw07.ReadJoins", spec := "readJoins", inPlace := ["internal/bytealg.IndexByteString", "internal/bytealg.IndexString"], named := ["unicode/utf8.first", "unicode/utf8.acceptRanges", "internal/bytealg.MaxLen"], apart := false, laid := [("unicode/utf8.acceptRanges", laid_unicode_utf8_acceptRanges), ("unicode/utf8.first", laid_unicode_utf8_first)] }
def ReadJoinsSaid : Prop := readJoinsRow.holds Tryd.pinned (OpenSpec.ofChange readJoinsSpec)

/-- ITS FALSE NEIGHBOUR: 'it returns false'. Refute it at one input. -/
def readJoinsWrong : ChangeSpec := { name := "readJoins", fn := fun _ => fun
  | [d1, d2] => { results := [.lit (.bool false)], args := [d1, d2] }
  | _ => none }
def ReadJoinsWrongFalsely : Prop := readJoinsRow.holds Tryd.pinned (OpenSpec.ofChange readJoinsWrong)

/-- 'eyewitnesslaw07.ReadMany': WHATEVER THE INPUT: true; the input reads as it did. -/
def readManySpec : ChangeSpec := { name := "readMany", fn := fun _ => fun
  | [d1, d2] => { results := [.lit (.bool true)], args := [d1, d2] }
  | _ => none }
def readManyRow : OpenClaim := { program := "ytcabnjinfkjnjaadoor", sum := "7723241cdef92abf2cdea2b5d5604ab0821ec3b16a44ca66ca3bc29df62e31b1", func := "eyewitness/eyewitnesslaw07.ReadMany", spec := "readMany", inPlace := ["internal/bytealg.IndexByteString", "internal/bytealg.IndexString"], named := ["unicode/utf8.first", "unicode/utf8.acceptRanges", "internal/bytealg.MaxLen"], apart := false, laid := [("unicode/utf8.acceptRanges", laid_unicode_utf8_acceptRanges), ("unicode/utf8.first", laid_unicode_utf8_first)] }
def ReadManySaid : Prop := readManyRow.holds Tryd.pinned (OpenSpec.ofChange readManySpec)

/-- ITS FALSE NEIGHBOUR: 'it returns false'. Refute it at one input. -/
def readManyWrong : ChangeSpec := { name := "readMany", fn := fun _ => fun
  | [d1, d2] => { results := [.lit (.bool false)], args := [d1, d2] }
  | _ => none }
def ReadManyWrongFalsely : Prop := readManyRow.holds Tryd.pinned (OpenSpec.ofChange readManyWrong)

/-- 'eyewitnesslaw05.NumTells': WHATEVER THE INPUT: true; the input reads as it did. -/
def numTellsSpec : ChangeSpec := { name := "numTells", fn := fun _ => fun
  | [d1, d2, d3] => { results := [.lit (.bool true)], args := [d1, d2, d3] }
  | _ => none }
def numTellsRow : OpenClaim := { program := "ytcabnjinfkjnjaadoor", sum := "7723241cdef92abf2cdea2b5d5604ab0821ec3b16a44ca66ca3bc29df62e31b1", func := "eyewitness/eyewitnesslaw05.NumTells", spec := "numTells", inPlace := ["internal/bytealg.IndexByteString", "internal/bytealg.IndexString"], named := ["unicode/utf8.first", "unicode/utf8.acceptRanges", "internal/strconv.uint64pow10", "math/bits.deBruijn32tab", "math/bits.deBruijn64tab", "internal/bytealg.MaxLen"], apart := false, laid := [("math/bits.deBruijn32tab", laid_math_bits_deBruijn32tab), ("math/bits.deBruijn64tab", laid_math_bits_deBruijn64tab), ("internal/strconv.uint64pow10", laid_internal_strconv_uint64pow10), ("unicode/utf8.acceptRanges", laid_unicode_utf8_acceptRanges), ("unicode/utf8.first", laid_unicode_utf8_first)] }
def NumTellsSaid : Prop := numTellsRow.holds Tryd.pinned (OpenSpec.ofChange numTellsSpec)

/-- ITS FALSE NEIGHBOUR: 'it returns false'. Refute it at one input. -/
def numTellsWrong : ChangeSpec := { name := "numTells", fn := fun _ => fun
  | [d1, d2, d3] => { results := [.lit (.bool false)], args := [d1, d2, d3] }
  | _ => none }
def NumTellsWrongFalsely : Prop := numTellsRow.holds Tryd.pinned (OpenSpec.ofChange numTellsWrong)

/-- 'eyewitnesslaw05.NumBack': WHATEVER THE INPUT: true; the input reads as it did. -/
def numBackSpec : ChangeSpec := { name := "numBack", fn := fun _ => fun
  | [d1, d2] => { results := [.lit (.bool true)], args := [d1, d2] }
  | _ => none }
def numBackRow : OpenClaim := { program := "ytcabnjinfkjnjaadoor", sum := "7723241cdef92abf2cdea2b5d5604ab0821ec3b16a44ca66ca3bc29df62e31b1", func := "eyewitness/eyewitnesslaw05.NumBack", spec := "numBack", inPlace := ["internal/bytealg.IndexByteString", "internal/bytealg.IndexString"], named := ["unicode/utf8.first", "unicode/utf8.acceptRanges", "internal/strconv.uint64pow10", "math/bits.deBruijn32tab", "math/bits.deBruijn64tab", "internal/bytealg.MaxLen"], apart := false, laid := [("math/bits.deBruijn32tab", laid_math_bits_deBruijn32tab), ("math/bits.deBruijn64tab", laid_math_bits_deBruijn64tab), ("internal/strconv.uint64pow10", laid_internal_strconv_uint64pow10), ("unicode/utf8.acceptRanges", laid_unicode_utf8_acceptRanges), ("unicode/utf8.first", laid_unicode_utf8_first)] }
def NumBackSaid : Prop := numBackRow.holds Tryd.pinned (OpenSpec.ofChange numBackSpec)

/-- ITS FALSE NEIGHBOUR: 'it returns false'. Refute it at one input. -/
def numBackWrong : ChangeSpec := { name := "numBack", fn := fun _ => fun
  | [d1, d2] => { results := [.lit (.bool false)], args := [d1, d2] }
  | _ => none }
def NumBackWrongFalsely : Prop := numBackRow.holds Tryd.pinned (OpenSpec.ofChange numBackWrong)

/-- 'eyewitnesslaw05.NumSpans': WHATEVER THE INPUT: true; the input reads as it did. -/
def numSpansSpec : ChangeSpec := { name := "numSpans", fn := fun _ => fun
  | [d1, d2] => { results := [.lit (.bool true)], args := [d1, d2] }
  | _ => none }
def numSpansRow : OpenClaim := { program := "ytcabnjinfkjnjaadoor", sum := "7723241cdef92abf2cdea2b5d5604ab0821ec3b16a44ca66ca3bc29df62e31b1", func := "eyewitness/eyewitnesslaw05.NumSpans", spec := "numSpans", inPlace := ["internal/bytealg.IndexByteString", "internal/bytealg.IndexString"], named := ["unicode/utf8.first", "unicode/utf8.acceptRanges", "internal/strconv.uint64pow10", "math/bits.deBruijn32tab", "math/bits.deBruijn64tab", "internal/bytealg.MaxLen"], apart := false, laid := [("math/bits.deBruijn32tab", laid_math_bits_deBruijn32tab), ("math/bits.deBruijn64tab", laid_math_bits_deBruijn64tab), ("internal/strconv.uint64pow10", laid_internal_strconv_uint64pow10), ("unicode/utf8.acceptRanges", laid_unicode_utf8_acceptRanges), ("unicode/utf8.first", laid_unicode_utf8_first)] }
def NumSpansSaid : Prop := numSpansRow.holds Tryd.pinned (OpenSpec.ofChange numSpansSpec)

/-- ITS FALSE NEIGHBOUR: 'it returns false'. Refute it at one input. -/
def numSpansWrong : ChangeSpec := { name := "numSpans", fn := fun _ => fun
  | [d1, d2] => { results := [.lit (.bool false)], args := [d1, d2] }
  | _ => none }
def NumSpansWrongFalsely : Prop := numSpansRow.holds Tryd.pinned (OpenSpec.ofChange numSpansWrong)

/-- 'eyewitnesslaw08.ShowTells': WHATEVER THE INPUT: true; the input reads as it did. -/
def showTellsSpec : ChangeSpec := { name := "showTells", fn := fun _ => fun
  | [d1, d2] => { results := [.lit (.bool true)], args := [d1, d2] }
  | _ => none }
def showTellsRow : OpenClaim := { program := "ytcabnjinfkjnjaadoor", sum := "7723241cdef92abf2cdea2b5d5604ab0821ec3b16a44ca66ca3bc29df62e31b1", func := "eyewitness/eyewitnesslaw08.ShowTells", spec := "showTells", inPlace := ["internal/bytealg.IndexByteString", "internal/bytealg.IndexString", "internal/abi.NoEscape"], unfollowed := true, recurses := true, named := ["unicode/utf8.first", "unicode/utf8.acceptRanges", "internal/strconv.uint64pow10", "math/bits.deBruijn32tab", "math/bits.deBruijn64tab", "internal/bytealg.MaxLen"], apart := false, laid := [("math/bits.deBruijn32tab", laid_math_bits_deBruijn32tab), ("math/bits.deBruijn64tab", laid_math_bits_deBruijn64tab), ("internal/strconv.uint64pow10", laid_internal_strconv_uint64pow10), ("unicode/utf8.acceptRanges", laid_unicode_utf8_acceptRanges), ("unicode/utf8.first", laid_unicode_utf8_first)] }
def ShowTellsSaid : Prop := showTellsRow.holds Tryd.pinned (OpenSpec.ofChange showTellsSpec)

/-- ITS FALSE NEIGHBOUR: 'it returns false'. Refute it at one input. -/
def showTellsWrong : ChangeSpec := { name := "showTells", fn := fun _ => fun
  | [d1, d2] => { results := [.lit (.bool false)], args := [d1, d2] }
  | _ => none }
def ShowTellsWrongFalsely : Prop := showTellsRow.holds Tryd.pinned (OpenSpec.ofChange showTellsWrong)

/-- 'eyewitnesslaw08.ShowBack': WHATEVER THE INPUT: true; the input reads as it did. -/
def showBackSpec : ChangeSpec := { name := "showBack", fn := fun _ => fun
  | [d1, d2] => { results := [.lit (.bool true)], args := [d1, d2] }
  | _ => none }
def showBackRow : OpenClaim := { program := "ytcabnjinfkjnjaadoor", sum := "7723241cdef92abf2cdea2b5d5604ab0821ec3b16a44ca66ca3bc29df62e31b1", func := "eyewitness/eyewitnesslaw08.ShowBack", spec := "showBack", inPlace := ["internal/bytealg.IndexByteString", "internal/bytealg.IndexString", "internal/abi.NoEscape"], unfollowed := true, recurses := true, named := ["unicode/utf8.first", "unicode/utf8.acceptRanges", "internal/strconv.uint64pow10", "math/bits.deBruijn32tab", "math/bits.deBruijn64tab", "internal/bytealg.MaxLen"], apart := false, laid := [("math/bits.deBruijn32tab", laid_math_bits_deBruijn32tab), ("math/bits.deBruijn64tab", laid_math_bits_deBruijn64tab), ("internal/strconv.uint64pow10", laid_internal_strconv_uint64pow10), ("unicode/utf8.acceptRanges", laid_unicode_utf8_acceptRanges), ("unicode/utf8.first", laid_unicode_utf8_first)] }
def ShowBackSaid : Prop := showBackRow.holds Tryd.pinned (OpenSpec.ofChange showBackSpec)

/-- ITS FALSE NEIGHBOUR: 'it returns false'. Refute it at one input. -/
def showBackWrong : ChangeSpec := { name := "showBack", fn := fun _ => fun
  | [d1, d2] => { results := [.lit (.bool false)], args := [d1, d2] }
  | _ => none }
def ShowBackWrongFalsely : Prop := showBackRow.holds Tryd.pinned (OpenSpec.ofChange showBackWrong)

/-- 'eyewitnesslaw08.ShowJoins': WHATEVER THE INPUT: true; the input reads as it did. -/
def showJoinsSpec : ChangeSpec := { name := "showJoins", fn := fun _ => fun
  | [d1, d2] => { results := [.lit (.bool true)], args := [d1, d2] }
  | _ => none }
def showJoinsRow : OpenClaim := { program := "ytcabnjinfkjnjaadoor", sum := "7723241cdef92abf2cdea2b5d5604ab0821ec3b16a44ca66ca3bc29df62e31b1", func := "eyewitness/eyewitnesslaw08.ShowJoins", spec := "showJoins", inPlace := ["internal/bytealg.IndexByteString", "internal/bytealg.IndexString", "internal/abi.NoEscape"], unfollowed := true, recurses := true, named := ["unicode/utf8.first", "unicode/utf8.acceptRanges", "internal/strconv.uint64pow10", "math/bits.deBruijn32tab", "math/bits.deBruijn64tab", "internal/bytealg.MaxLen"], apart := false, laid := [("math/bits.deBruijn32tab", laid_math_bits_deBruijn32tab), ("math/bits.deBruijn64tab", laid_math_bits_deBruijn64tab), ("internal/strconv.uint64pow10", laid_internal_strconv_uint64pow10), ("unicode/utf8.acceptRanges", laid_unicode_utf8_acceptRanges), ("unicode/utf8.first", laid_unicode_utf8_first)] }
def ShowJoinsSaid : Prop := showJoinsRow.holds Tryd.pinned (OpenSpec.ofChange showJoinsSpec)

/-- ITS FALSE NEIGHBOUR: 'it returns false'. Refute it at one input. -/
def showJoinsWrong : ChangeSpec := { name := "showJoins", fn := fun _ => fun
  | [d1, d2] => { results := [.lit (.bool false)], args := [d1, d2] }
  | _ => none }
def ShowJoinsWrongFalsely : Prop := showJoinsRow.holds Tryd.pinned (OpenSpec.ofChange showJoinsWrong)

/- THE SECOND FORM. 'bulk': how many values and letters a reading holds, each counted each time it is reached (what is shared counts as often as it is met; a slice's spare places count too). A statement '..UptoSaid' is the law's where the arguments, and the package variables that the reading takes, are together of bulk at most 1048576: NARROWER than '..Said'. Prove '..Said' where nothing that the law and all that it calls make is longer than what came in: it says more and counts as full. Else prove '..UptoSaid'. A law counts once. -/
mutual
def uptoBulk {H : Type} : DataW H → Nat
  | .lit (.string bytes) => bytes.length + 1
  | .lit _ => 1
  | .nil => 1
  | .ptr d => uptoBulk d + 1
  | .slice elems spare => uptoBulkAll elems + uptoBulkAll spare + 1
  | .agg parts => uptoBulkAll parts + 1
  | .iface _ d => uptoBulk d + 1
  | .map entries => uptoBulkEntries entries + 1
  | .held _ => 1
def uptoBulkAll {H : Type} : List (DataW H) → Nat
  | [] => 0
  | d :: r => uptoBulk d + uptoBulkAll r
def uptoBulkEntries {H : Type} : List (Lit × DataW H) → Nat
  | [] => 0
  | x :: r => uptoBulkEntry x + uptoBulkEntries r
def uptoBulkEntry {H : Type} : Lit × DataW H → Nat
  | (.string bytes, d) => bytes.length + uptoBulk d + 1
  | (_, d) => uptoBulk d + 1
 end
def uptoSmall : (H : Type) → List (DataW H) → Bool := fun _ ds => decide (uptoBulkAll ds ≤ 1048576)
def OpenSpec.upto (s : _root_.Go.ChangeSpec) : _root_.Go.OpenSpec := { _root_.Go.OpenSpec.ofChange s with cond := some uptoSmall }

/-- 'eyewitnesslaw26.TellTells', WHERE WHAT IT READS IS OF BULK AT MOST 1048576: true; the input reads as it did. -/
def tellTellsUptoRow : OpenClaim := { program := "ytcabnjinfkjnjaadoor", sum := "7723241cdef92abf2cdea2b5d5604ab0821ec3b16a44ca66ca3bc29df62e31b1", func := "eyewitness/eyewitnesslaw26.TellTells", spec := "tellTells", inPlace := ["internal/abi.NoEscape", "internal/bytealg.MakeNoZero"], named := ["internal/strconv.uint64pow10", "math/bits.deBruijn32tab", "math/bits.deBruijn64tab"], apart := false, laid := [("math/bits.deBruijn32tab", laid_math_bits_deBruijn32tab), ("math/bits.deBruijn64tab", laid_math_bits_deBruijn64tab), ("internal/strconv.uint64pow10", laid_internal_strconv_uint64pow10)], narrowed := true }
def TellTellsUptoSaid : Prop := tellTellsUptoRow.holds Tryd.pinned (OpenSpec.upto tellTellsSpec)

/-- 'eyewitnesslaw26.TellUnlike', WHERE WHAT IT READS IS OF BULK AT MOST 1048576: true; the input reads as it did. -/
def tellUnlikeUptoRow : OpenClaim := { program := "ytcabnjinfkjnjaadoor", sum := "7723241cdef92abf2cdea2b5d5604ab0821ec3b16a44ca66ca3bc29df62e31b1", func := "eyewitness/eyewitnesslaw26.TellUnlike", spec := "tellUnlike", inPlace := ["internal/abi.NoEscape", "internal/bytealg.MakeNoZero"], named := ["internal/strconv.uint64pow10", "math/bits.deBruijn32tab", "math/bits.deBruijn64tab"], apart := false, laid := [("math/bits.deBruijn32tab", laid_math_bits_deBruijn32tab), ("math/bits.deBruijn64tab", laid_math_bits_deBruijn64tab), ("internal/strconv.uint64pow10", laid_internal_strconv_uint64pow10)], narrowed := true }
def TellUnlikeUptoSaid : Prop := tellUnlikeUptoRow.holds Tryd.pinned (OpenSpec.upto tellUnlikeSpec)

/-- 'eyewitnesslaw26.TellLines', WHERE WHAT IT READS IS OF BULK AT MOST 1048576: true; the input reads as it did. -/
def tellLinesUptoRow : OpenClaim := { program := "ytcabnjinfkjnjaadoor", sum := "7723241cdef92abf2cdea2b5d5604ab0821ec3b16a44ca66ca3bc29df62e31b1", func := "eyewitness/eyewitnesslaw26.TellLines", spec := "tellLines", inPlace := ["internal/abi.NoEscape", "internal/bytealg.MakeNoZero"], named := ["internal/strconv.uint64pow10", "math/bits.deBruijn32tab", "math/bits.deBruijn64tab"], apart := false, laid := [("math/bits.deBruijn32tab", laid_math_bits_deBruijn32tab), ("math/bits.deBruijn64tab", laid_math_bits_deBruijn64tab), ("internal/strconv.uint64pow10", laid_internal_strconv_uint64pow10)], narrowed := true }
def TellLinesUptoSaid : Prop := tellLinesUptoRow.holds Tryd.pinned (OpenSpec.upto tellLinesSpec)

/-- 'eyewitnesslaw06.HistBack', WHERE WHAT IT READS IS OF BULK AT MOST 1048576: true; the input reads as it did. -/
def histBackUptoRow : OpenClaim := { program := "ytcabnjinfkjnjaadoor", sum := "7723241cdef92abf2cdea2b5d5604ab0821ec3b16a44ca66ca3bc29df62e31b1", func := "eyewitness/eyewitnesslaw06.HistBack", spec := "histBack", inPlace := ["internal/bytealg.IndexByteString", "internal/bytealg.IndexString"], unfollowed := true, recurses := true, named := ["unicode/utf8.first", "unicode/utf8.acceptRanges", "internal/bytealg.MaxLen"], apart := false, laid := [("unicode/utf8.acceptRanges", laid_unicode_utf8_acceptRanges), ("unicode/utf8.first", laid_unicode_utf8_first)], narrowed := true }
def HistBackUptoSaid : Prop := histBackUptoRow.holds Tryd.pinned (OpenSpec.upto histBackSpec)

/-- 'eyewitnesslaw06.HistTells', WHERE WHAT IT READS IS OF BULK AT MOST 1048576: true; the input reads as it did. -/
def histTellsUptoRow : OpenClaim := { program := "ytcabnjinfkjnjaadoor", sum := "7723241cdef92abf2cdea2b5d5604ab0821ec3b16a44ca66ca3bc29df62e31b1", func := "eyewitness/eyewitnesslaw06.HistTells", spec := "histTells", inPlace := ["internal/bytealg.IndexByteString", "internal/bytealg.IndexString"], unfollowed := true, recurses := true, named := ["unicode/utf8.first", "unicode/utf8.acceptRanges", "internal/bytealg.MaxLen"], apart := false, laid := [("unicode/utf8.acceptRanges", laid_unicode_utf8_acceptRanges), ("unicode/utf8.first", laid_unicode_utf8_first)], narrowed := true }
def HistTellsUptoSaid : Prop := histTellsUptoRow.holds Tryd.pinned (OpenSpec.upto histTellsSpec)

/-- 'eyewitnesslaw06.HistJoins', WHERE WHAT IT READS IS OF BULK AT MOST 1048576: true; the input reads as it did. -/
def histJoinsUptoRow : OpenClaim := { program := "ytcabnjinfkjnjaadoor", sum := "7723241cdef92abf2cdea2b5d5604ab0821ec3b16a44ca66ca3bc29df62e31b1", func := "eyewitness/eyewitnesslaw06.HistJoins", spec := "histJoins", inPlace := ["internal/bytealg.IndexByteString", "internal/bytealg.IndexString"], unfollowed := true, recurses := true, named := ["unicode/utf8.first", "unicode/utf8.acceptRanges", "internal/bytealg.MaxLen"], apart := false, laid := [("unicode/utf8.acceptRanges", laid_unicode_utf8_acceptRanges), ("unicode/utf8.first", laid_unicode_utf8_first)], narrowed := true }
def HistJoinsUptoSaid : Prop := histJoinsUptoRow.holds Tryd.pinned (OpenSpec.upto histJoinsSpec)

/-- 'eyewitnesslaw07.ReadTells', WHERE WHAT IT READS IS OF BULK AT MOST 1048576: true; the input reads as it did. -/
def readTellsUptoRow : OpenClaim := { program := "ytcabnjinfkjnjaadoor", sum := "7723241cdef92abf2cdea2b5d5604ab0821ec3b16a44ca66ca3bc29df62e31b1", func := "eyewitness/eyewitnesslaw07.ReadTells", spec := "readTells", inPlace := ["internal/bytealg.IndexByteString", "internal/bytealg.IndexString"], named := ["unicode/utf8.first", "unicode/utf8.acceptRanges", "internal/bytealg.MaxLen"], apart := false, laid := [("unicode/utf8.acceptRanges", laid_unicode_utf8_acceptRanges), ("unicode/utf8.first", laid_unicode_utf8_first)], narrowed := true }
def ReadTellsUptoSaid : Prop := readTellsUptoRow.holds Tryd.pinned (OpenSpec.upto readTellsSpec)

/-- 'eyewitnesslaw07.ReadRight', WHERE WHAT IT READS IS OF BULK AT MOST 1048576: true; the input reads as it did. -/
def readRightUptoRow : OpenClaim := { program := "ytcabnjinfkjnjaadoor", sum := "7723241cdef92abf2cdea2b5d5604ab0821ec3b16a44ca66ca3bc29df62e31b1", func := "eyewitness/eyewitnesslaw07.ReadRight", spec := "readRight", inPlace := ["internal/bytealg.IndexByteString", "internal/bytealg.IndexString"], named := ["unicode/utf8.first", "unicode/utf8.acceptRanges", "internal/bytealg.MaxLen"], apart := false, laid := [("unicode/utf8.acceptRanges", laid_unicode_utf8_acceptRanges), ("unicode/utf8.first", laid_unicode_utf8_first)], narrowed := true }
def ReadRightUptoSaid : Prop := readRightUptoRow.holds Tryd.pinned (OpenSpec.upto readRightSpec)

/-- 'eyewitnesslaw07.ReadJoins', WHERE WHAT IT READS IS OF BULK AT MOST 1048576: true; the input reads as it did. -/
def readJoinsUptoRow : OpenClaim := { program := "ytcabnjinfkjnjaadoor", sum := "7723241cdef92abf2cdea2b5d5604ab0821ec3b16a44ca66ca3bc29df62e31b1", func := "eyewitness/eyewitnesslaw07.ReadJoins", spec := "readJoins", inPlace := ["internal/bytealg.IndexByteString", "internal/bytealg.IndexString"], named := ["unicode/utf8.first", "unicode/utf8.acceptRanges", "internal/bytealg.MaxLen"], apart := false, laid := [("unicode/utf8.acceptRanges", laid_unicode_utf8_acceptRanges), ("unicode/utf8.first", laid_unicode_utf8_first)], narrowed := true }
def ReadJoinsUptoSaid : Prop := readJoinsUptoRow.holds Tryd.pinned (OpenSpec.upto readJoinsSpec)

/-- 'eyewitnesslaw07.ReadMany', WHERE WHAT IT READS IS OF BULK AT MOST 1048576: true; the input reads as it did. -/
def readManyUptoRow : OpenClaim := { program := "ytcabnjinfkjnjaadoor", sum := "7723241cdef92abf2cdea2b5d5604ab0821ec3b16a44ca66ca3bc29df62e31b1", func := "eyewitness/eyewitnesslaw07.ReadMany", spec := "readMany", inPlace := ["internal/bytealg.IndexByteString", "internal/bytealg.IndexString"], named := ["unicode/utf8.first", "unicode/utf8.acceptRanges", "internal/bytealg.MaxLen"], apart := false, laid := [("unicode/utf8.acceptRanges", laid_unicode_utf8_acceptRanges), ("unicode/utf8.first", laid_unicode_utf8_first)], narrowed := true }
def ReadManyUptoSaid : Prop := readManyUptoRow.holds Tryd.pinned (OpenSpec.upto readManySpec)

/-- 'eyewitnesslaw05.NumTells', WHERE WHAT IT READS IS OF BULK AT MOST 1048576: true; the input reads as it did. -/
def numTellsUptoRow : OpenClaim := { program := "ytcabnjinfkjnjaadoor", sum := "7723241cdef92abf2cdea2b5d5604ab0821ec3b16a44ca66ca3bc29df62e31b1", func := "eyewitness/eyewitnesslaw05.NumTells", spec := "numTells", inPlace := ["internal/bytealg.IndexByteString", "internal/bytealg.IndexString"], named := ["unicode/utf8.first", "unicode/utf8.acceptRanges", "internal/strconv.uint64pow10", "math/bits.deBruijn32tab", "math/bits.deBruijn64tab", "internal/bytealg.MaxLen"], apart := false, laid := [("math/bits.deBruijn32tab", laid_math_bits_deBruijn32tab), ("math/bits.deBruijn64tab", laid_math_bits_deBruijn64tab), ("internal/strconv.uint64pow10", laid_internal_strconv_uint64pow10), ("unicode/utf8.acceptRanges", laid_unicode_utf8_acceptRanges), ("unicode/utf8.first", laid_unicode_utf8_first)], narrowed := true }
def NumTellsUptoSaid : Prop := numTellsUptoRow.holds Tryd.pinned (OpenSpec.upto numTellsSpec)

/-- 'eyewitnesslaw05.NumBack', WHERE WHAT IT READS IS OF BULK AT MOST 1048576: true; the input reads as it did. -/
def numBackUptoRow : OpenClaim := { program := "ytcabnjinfkjnjaadoor", sum := "7723241cdef92abf2cdea2b5d5604ab0821ec3b16a44ca66ca3bc29df62e31b1", func := "eyewitness/eyewitnesslaw05.NumBack", spec := "numBack", inPlace := ["internal/bytealg.IndexByteString", "internal/bytealg.IndexString"], named := ["unicode/utf8.first", "unicode/utf8.acceptRanges", "internal/strconv.uint64pow10", "math/bits.deBruijn32tab", "math/bits.deBruijn64tab", "internal/bytealg.MaxLen"], apart := false, laid := [("math/bits.deBruijn32tab", laid_math_bits_deBruijn32tab), ("math/bits.deBruijn64tab", laid_math_bits_deBruijn64tab), ("internal/strconv.uint64pow10", laid_internal_strconv_uint64pow10), ("unicode/utf8.acceptRanges", laid_unicode_utf8_acceptRanges), ("unicode/utf8.first", laid_unicode_utf8_first)], narrowed := true }
def NumBackUptoSaid : Prop := numBackUptoRow.holds Tryd.pinned (OpenSpec.upto numBackSpec)

/-- 'eyewitnesslaw05.NumSpans', WHERE WHAT IT READS IS OF BULK AT MOST 1048576: true; the input reads as it did. -/
def numSpansUptoRow : OpenClaim := { program := "ytcabnjinfkjnjaadoor", sum := "7723241cdef92abf2cdea2b5d5604ab0821ec3b16a44ca66ca3bc29df62e31b1", func := "eyewitness/eyewitnesslaw05.NumSpans", spec := "numSpans", inPlace := ["internal/bytealg.IndexByteString", "internal/bytealg.IndexString"], named := ["unicode/utf8.first", "unicode/utf8.acceptRanges", "internal/strconv.uint64pow10", "math/bits.deBruijn32tab", "math/bits.deBruijn64tab", "internal/bytealg.MaxLen"], apart := false, laid := [("math/bits.deBruijn32tab", laid_math_bits_deBruijn32tab), ("math/bits.deBruijn64tab", laid_math_bits_deBruijn64tab), ("internal/strconv.uint64pow10", laid_internal_strconv_uint64pow10), ("unicode/utf8.acceptRanges", laid_unicode_utf8_acceptRanges), ("unicode/utf8.first", laid_unicode_utf8_first)], narrowed := true }
def NumSpansUptoSaid : Prop := numSpansUptoRow.holds Tryd.pinned (OpenSpec.upto numSpansSpec)

/-- 'eyewitnesslaw08.ShowTells', WHERE WHAT IT READS IS OF BULK AT MOST 1048576: true; the input reads as it did. -/
def showTellsUptoRow : OpenClaim := { program := "ytcabnjinfkjnjaadoor", sum := "7723241cdef92abf2cdea2b5d5604ab0821ec3b16a44ca66ca3bc29df62e31b1", func := "eyewitness/eyewitnesslaw08.ShowTells", spec := "showTells", inPlace := ["internal/bytealg.IndexByteString", "internal/bytealg.IndexString", "internal/abi.NoEscape"], unfollowed := true, recurses := true, named := ["unicode/utf8.first", "unicode/utf8.acceptRanges", "internal/strconv.uint64pow10", "math/bits.deBruijn32tab", "math/bits.deBruijn64tab", "internal/bytealg.MaxLen"], apart := false, laid := [("math/bits.deBruijn32tab", laid_math_bits_deBruijn32tab), ("math/bits.deBruijn64tab", laid_math_bits_deBruijn64tab), ("internal/strconv.uint64pow10", laid_internal_strconv_uint64pow10), ("unicode/utf8.acceptRanges", laid_unicode_utf8_acceptRanges), ("unicode/utf8.first", laid_unicode_utf8_first)], narrowed := true }
def ShowTellsUptoSaid : Prop := showTellsUptoRow.holds Tryd.pinned (OpenSpec.upto showTellsSpec)

/-- 'eyewitnesslaw08.ShowBack', WHERE WHAT IT READS IS OF BULK AT MOST 1048576: true; the input reads as it did. -/
def showBackUptoRow : OpenClaim := { program := "ytcabnjinfkjnjaadoor", sum := "7723241cdef92abf2cdea2b5d5604ab0821ec3b16a44ca66ca3bc29df62e31b1", func := "eyewitness/eyewitnesslaw08.ShowBack", spec := "showBack", inPlace := ["internal/bytealg.IndexByteString", "internal/bytealg.IndexString", "internal/abi.NoEscape"], unfollowed := true, recurses := true, named := ["unicode/utf8.first", "unicode/utf8.acceptRanges", "internal/strconv.uint64pow10", "math/bits.deBruijn32tab", "math/bits.deBruijn64tab", "internal/bytealg.MaxLen"], apart := false, laid := [("math/bits.deBruijn32tab", laid_math_bits_deBruijn32tab), ("math/bits.deBruijn64tab", laid_math_bits_deBruijn64tab), ("internal/strconv.uint64pow10", laid_internal_strconv_uint64pow10), ("unicode/utf8.acceptRanges", laid_unicode_utf8_acceptRanges), ("unicode/utf8.first", laid_unicode_utf8_first)], narrowed := true }
def ShowBackUptoSaid : Prop := showBackUptoRow.holds Tryd.pinned (OpenSpec.upto showBackSpec)

/-- 'eyewitnesslaw08.ShowJoins', WHERE WHAT IT READS IS OF BULK AT MOST 1048576: true; the input reads as it did. -/
def showJoinsUptoRow : OpenClaim := { program := "ytcabnjinfkjnjaadoor", sum := "7723241cdef92abf2cdea2b5d5604ab0821ec3b16a44ca66ca3bc29df62e31b1", func := "eyewitness/eyewitnesslaw08.ShowJoins", spec := "showJoins", inPlace := ["internal/bytealg.IndexByteString", "internal/bytealg.IndexString", "internal/abi.NoEscape"], unfollowed := true, recurses := true, named := ["unicode/utf8.first", "unicode/utf8.acceptRanges", "internal/strconv.uint64pow10", "math/bits.deBruijn32tab", "math/bits.deBruijn64tab", "internal/bytealg.MaxLen"], apart := false, laid := [("math/bits.deBruijn32tab", laid_math_bits_deBruijn32tab), ("math/bits.deBruijn64tab", laid_math_bits_deBruijn64tab), ("internal/strconv.uint64pow10", laid_internal_strconv_uint64pow10), ("unicode/utf8.acceptRanges", laid_unicode_utf8_acceptRanges), ("unicode/utf8.first", laid_unicode_utf8_first)], narrowed := true }
def ShowJoinsUptoSaid : Prop := showJoinsUptoRow.holds Tryd.pinned (OpenSpec.upto showJoinsSpec)

end Rows
end Go.Proofs.YtcabnjinfkjnjaaDoor
