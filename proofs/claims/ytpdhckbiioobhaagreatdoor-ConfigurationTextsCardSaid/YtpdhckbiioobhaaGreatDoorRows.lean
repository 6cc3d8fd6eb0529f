/-
  NARROWER THAN 'FOR EVERY INPUT', by the rows' own cells (each row's printed sentence says how): ConfigurationLines: laid · NormalMeans: laid · NormalOrder: laid · NormalCompares: loops, laid · DeclarationSigns: laid · NormalAnswers: loops, laid · NormalAgain: laid · ConfigurationRestricts: laid · ConfigurationTexts: laid · DeclarationAnswers: loops, laid.
  DERIVED. THE GIVEN ROWS OF THIS SEAT. 10 by the template 'for every input the law returns true; each argument reads behind the call as it read before'; 0 by the template 'total and deterministic' (their statements: YtpdhckbiioobhaaGreatDoorTotals.lean).
  GIVEN WITH THE SEED: the statements are not yours to turn. If you find one false, say at which input.
  Laid BY PROGRAM, IN A SANDBOX (cutbox-rows.mjs): the forced cells as the released guide's own fill.sh prints them over the translation 59f52b3a9b76f1e2… (all of the seat's roots in one cut). By AI agents, Wed Nov 11 2026. No macro, syntax, notation, axiom, sorry.
-/
import Derived.Test.YtpdhckbiioobhaaGreatDoorChecked
import GoSem.PinnedTables
import GoSem.Claim
import GoSem.ClaimJoined
import GoSem.ClaimMapViews
import Derived.JoinedTies
import Derived.KernelRfl
namespace Go.Proofs.YtpdhckbiioobhaaGreatDoor
/- THE CELL 'sum', in the pinned program and in every row, IS THE sha256 OF THE DUMP (.gsa) THAT YtpdhckbiioobhaaGreatDoorProg.lean LOADS. Nothing in Lean hashes anything: it is a label: what it is worth is what the hold of that sum in a sandbox is worth. -/
noncomputable def Tryz.pinned : Pinned := { name := "ytpdhckbiioobhaagreatdoor", sum := "59f52b3a9b76f1e2c2717becc90ff7d3c8abccbbdc9bf3cae2cdba4bce27da7e", checked := Tryz.checked }
namespace Rows
def none {H : Type} : Left H := { results := [], args := [] }

/- WHAT THE LISTED PACKAGE-LEVEL VARIABLES READ AS WHEN THE CALL BEGINS. Each datum BY PROGRAM (the guide's laid-datum.mjs) off the statement by which the dump's own 'gosem.cut.vars' lays the variable. In a bare row this is a premise. The card (YtpdhckbiioobhaaGreatDoorCards.lean) ties it to the program's text. -/
def laid_math_bits_deBruijn32tab {H : Type} : DataW H := .agg [.lit (.int .u8 0), .lit (.int .u8 1), .lit (.int .u8 28), .lit (.int .u8 2), .lit (.int .u8 29), .lit (.int .u8 14), .lit (.int .u8 24), .lit (.int .u8 3), .lit (.int .u8 30), .lit (.int .u8 22), .lit (.int .u8 20), .lit (.int .u8 15), .lit (.int .u8 25), .lit (.int .u8 17), .lit (.int .u8 4), .lit (.int .u8 8), .lit (.int .u8 31), .lit (.int .u8 27), .lit (.int .u8 13), .lit (.int .u8 23), .lit (.int .u8 21), .lit (.int .u8 19), .lit (.int .u8 16), .lit (.int .u8 7), .lit (.int .u8 26), .lit (.int .u8 12), .lit (.int .u8 18), .lit (.int .u8 6), .lit (.int .u8 11), .lit (.int .u8 5), .lit (.int .u8 10), .lit (.int .u8 9)]
def laid_math_bits_deBruijn64tab {H : Type} : DataW H := .agg [.lit (.int .u8 0), .lit (.int .u8 1), .lit (.int .u8 56), .lit (.int .u8 2), .lit (.int .u8 57), .lit (.int .u8 49), .lit (.int .u8 28), .lit (.int .u8 3), .lit (.int .u8 61), .lit (.int .u8 58), .lit (.int .u8 42), .lit (.int .u8 50), .lit (.int .u8 38), .lit (.int .u8 29), .lit (.int .u8 17), .lit (.int .u8 4), .lit (.int .u8 62), .lit (.int .u8 47), .lit (.int .u8 59), .lit (.int .u8 36), .lit (.int .u8 45), .lit (.int .u8 43), .lit (.int .u8 51), .lit (.int .u8 22), .lit (.int .u8 53), .lit (.int .u8 39), .lit (.int .u8 33), .lit (.int .u8 30), .lit (.int .u8 24), .lit (.int .u8 18), .lit (.int .u8 12), .lit (.int .u8 5), .lit (.int .u8 63), .lit (.int .u8 55), .lit (.int .u8 48), .lit (.int .u8 27), .lit (.int .u8 60), .lit (.int .u8 41), .lit (.int .u8 37), .lit (.int .u8 16), .lit (.int .u8 46), .lit (.int .u8 35), .lit (.int .u8 44), .lit (.int .u8 21), .lit (.int .u8 52), .lit (.int .u8 32), .lit (.int .u8 23), .lit (.int .u8 11), .lit (.int .u8 54), .lit (.int .u8 26), .lit (.int .u8 40), .lit (.int .u8 15), .lit (.int .u8 34), .lit (.int .u8 20), .lit (.int .u8 31), .lit (.int .u8 10), .lit (.int .u8 25), .lit (.int .u8 14), .lit (.int .u8 19), .lit (.int .u8 9), .lit (.int .u8 13), .lit (.int .u8 8), .lit (.int .u8 7), .lit (.int .u8 6)]
def laid_internal_strconv_uint64pow10 {H : Type} : DataW H := .agg [.lit (.int .u64 1), .lit (.int .u64 10), .lit (.int .u64 100), .lit (.int .u64 1000), .lit (.int .u64 10000), .lit (.int .u64 100000), .lit (.int .u64 1000000), .lit (.int .u64 10000000), .lit (.int .u64 100000000), .lit (.int .u64 1000000000), .lit (.int .u64 10000000000), .lit (.int .u64 100000000000), .lit (.int .u64 1000000000000), .lit (.int .u64 10000000000000), .lit (.int .u64 100000000000000), .lit (.int .u64 1000000000000000), .lit (.int .u64 10000000000000000), .lit (.int .u64 100000000000000000), .lit (.int .u64 1000000000000000000), .lit (.int .u64 10000000000000000000)]
def laid_unicode_utf8_acceptRanges {H : Type} : DataW H := .agg [.agg [.lit (.int .u8 128), .lit (.int .u8 191)], .agg [.lit (.int .u8 160), .lit (.int .u8 191)], .agg [.lit (.int .u8 128), .lit (.int .u8 159)], .agg [.lit (.int .u8 144), .lit (.int .u8 191)], .agg [.lit (.int .u8 128), .lit (.int .u8 143)], .agg [.lit (.int .u8 0), .lit (.int .u8 0)], .agg [.lit (.int .u8 0), .lit (.int .u8 0)], .agg [.lit (.int .u8 0), .lit (.int .u8 0)], .agg [.lit (.int .u8 0), .lit (.int .u8 0)], .agg [.lit (.int .u8 0), .lit (.int .u8 0)], .agg [.lit (.int .u8 0), .lit (.int .u8 0)], .agg [.lit (.int .u8 0), .lit (.int .u8 0)], .agg [.lit (.int .u8 0), .lit (.int .u8 0)], .agg [.lit (.int .u8 0), .lit (.int .u8 0)], .agg [.lit (.int .u8 0), .lit (.int .u8 0)], .agg [.lit (.int .u8 0), .lit (.int .u8 0)]]
def laid_strconv_ErrRange {H : Type} : DataW H := .iface "*errors.errorString" (.ptr (.agg [.lit (.string [118, 97, 108, 117, 101, 32, 111, 117, 116, 32, 111, 102, 32, 114, 97, 110, 103, 101])]))
def laid_strconv_ErrSyntax {H : Type} : DataW H := .iface "*errors.errorString" (.ptr (.agg [.lit (.string [105, 110, 118, 97, 108, 105, 100, 32, 115, 121, 110, 116, 97, 120])]))
/-- One of Go's own tables, pinned by name: the form's constant. -/
def laid_unicode_utf8_first : DataW Unit := Go.Pinned.utf8First

/-- 'trustquorumlaw06.ConfigurationLines': WHATEVER THE INPUT: true; the input reads as it did. -/
def configurationLinesSpec : ChangeSpec := { name := "configurationLines", fn := fun _ => fun
  | [d1, d2] => { results := [.lit (.bool true)], args := [d1, d2] }
  | _ => none }
def configurationLinesRow : OpenClaim := { program := "ytpdhckbiioobhaagreatdoor", sum := "59f52b3a9b76f1e2c2717becc90ff7d3c8abccbbdc9bf3cae2cdba4bce27da7e", func := "trustquorum/trustquorumlaw06.ConfigurationLines", spec := "configurationLines", inPlace := ["internal/bytealg.CountString", "internal/bytealg.IndexByteString", "internal/bytealg.IndexString", "internal/abi.NoEscape", "internal/bytealg.MakeNoZero"], unfollowed := true, recurses := true, named := ["internal/strconv.uint64pow10", "math/bits.deBruijn32tab", "math/bits.deBruijn64tab", "unicode/utf8.first", "unicode/utf8.acceptRanges", "internal/bytealg.MaxLen", "strconv.ErrSyntax", "strconv.ErrRange"], apart := false, laid := [("math/bits.deBruijn32tab", laid_math_bits_deBruijn32tab), ("math/bits.deBruijn64tab", laid_math_bits_deBruijn64tab), ("internal/strconv.uint64pow10", laid_internal_strconv_uint64pow10), ("unicode/utf8.acceptRanges", laid_unicode_utf8_acceptRanges), ("strconv.ErrRange", laid_strconv_ErrRange), ("strconv.ErrSyntax", laid_strconv_ErrSyntax), ("unicode/utf8.first", laid_unicode_utf8_first)] }
def ConfigurationLinesSaid : Prop := configurationLinesRow.holds Tryz.pinned (OpenSpec.ofChange configurationLinesSpec)

/-- ITS FALSE NEIGHBOUR: 'it returns false'. Refute it at one input. -/
def configurationLinesWrong : ChangeSpec := { name := "configurationLines", fn := fun _ => fun
  | [d1, d2] => { results := [.lit (.bool false)], args := [d1, d2] }
  | _ => none }
def ConfigurationLinesWrongFalsely : Prop := configurationLinesRow.holds Tryz.pinned (OpenSpec.ofChange configurationLinesWrong)

/-- 'trustquorumlaw04.NormalMeans': WHATEVER THE INPUT: true; the input reads as it did. -/
def normalMeansSpec : ChangeSpec := { name := "normalMeans", fn := fun _ => fun
  | [d] => { results := [.lit (.bool true)], args := [d] }
  | _ => none }
def normalMeansRow : OpenClaim := { program := "ytpdhckbiioobhaagreatdoor", sum := "59f52b3a9b76f1e2c2717becc90ff7d3c8abccbbdc9bf3cae2cdba4bce27da7e", func := "trustquorum/trustquorumlaw04.NormalMeans", spec := "normalMeans", unfollowed := true, recurses := true, named := ["internal/strconv.uint64pow10", "math/bits.deBruijn32tab", "math/bits.deBruijn64tab"], apart := false, laid := [("math/bits.deBruijn32tab", laid_math_bits_deBruijn32tab), ("math/bits.deBruijn64tab", laid_math_bits_deBruijn64tab), ("internal/strconv.uint64pow10", laid_internal_strconv_uint64pow10)] }
def NormalMeansSaid : Prop := normalMeansRow.holds Tryz.pinned (OpenSpec.ofChange normalMeansSpec)

/-- ITS FALSE NEIGHBOUR: 'it returns false'. Refute it at one input. -/
def normalMeansWrong : ChangeSpec := { name := "normalMeans", fn := fun _ => fun
  | [d] => { results := [.lit (.bool false)], args := [d] }
  | _ => none }
def NormalMeansWrongFalsely : Prop := normalMeansRow.holds Tryz.pinned (OpenSpec.ofChange normalMeansWrong)

/-- 'trustquorumlaw04.NormalOrder': WHATEVER THE INPUT: true; the input reads as it did. -/
def normalOrderSpec : ChangeSpec := { name := "normalOrder", fn := fun _ => fun
  | [d] => { results := [.lit (.bool true)], args := [d] }
  | _ => none }
def normalOrderRow : OpenClaim := { program := "ytpdhckbiioobhaagreatdoor", sum := "59f52b3a9b76f1e2c2717becc90ff7d3c8abccbbdc9bf3cae2cdba4bce27da7e", func := "trustquorum/trustquorumlaw04.NormalOrder", spec := "normalOrder", unfollowed := true, recurses := true, named := ["internal/strconv.uint64pow10", "math/bits.deBruijn32tab", "math/bits.deBruijn64tab"], apart := false, laid := [("math/bits.deBruijn32tab", laid_math_bits_deBruijn32tab), ("math/bits.deBruijn64tab", laid_math_bits_deBruijn64tab), ("internal/strconv.uint64pow10", laid_internal_strconv_uint64pow10)] }
def NormalOrderSaid : Prop := normalOrderRow.holds Tryz.pinned (OpenSpec.ofChange normalOrderSpec)

/-- ITS FALSE NEIGHBOUR: 'it returns false'. Refute it at one input. -/
def normalOrderWrong : ChangeSpec := { name := "normalOrder", fn := fun _ => fun
  | [d] => { results := [.lit (.bool false)], args := [d] }
  | _ => none }
def NormalOrderWrongFalsely : Prop := normalOrderRow.holds Tryz.pinned (OpenSpec.ofChange normalOrderWrong)

/-- 'trustquorumlaw04.NormalCompares': WHATEVER THE INPUT: true; the input reads as it did. -/
def normalComparesSpec : ChangeSpec := { name := "normalCompares", fn := fun _ => fun
  | [d1, d2, d3] => { results := [.lit (.bool true)], args := [d1, d2, d3] }
  | _ => none }
def normalComparesRow : OpenClaim := { program := "ytpdhckbiioobhaagreatdoor", sum := "59f52b3a9b76f1e2c2717becc90ff7d3c8abccbbdc9bf3cae2cdba4bce27da7e", func := "trustquorum/trustquorumlaw04.NormalCompares", spec := "normalCompares", unfollowed := true, recurses := true, named := ["internal/strconv.uint64pow10", "math/bits.deBruijn32tab", "math/bits.deBruijn64tab"], loops := true, apart := false, laid := [("math/bits.deBruijn32tab", laid_math_bits_deBruijn32tab), ("math/bits.deBruijn64tab", laid_math_bits_deBruijn64tab), ("internal/strconv.uint64pow10", laid_internal_strconv_uint64pow10)] }
def NormalComparesSaid : Prop := normalComparesRow.holds Tryz.pinned (OpenSpec.ofChange normalComparesSpec)

/-- ITS FALSE NEIGHBOUR: 'it returns false'. Refute it at one input. -/
def normalComparesWrong : ChangeSpec := { name := "normalCompares", fn := fun _ => fun
  | [d1, d2, d3] => { results := [.lit (.bool false)], args := [d1, d2, d3] }
  | _ => none }
def NormalComparesWrongFalsely : Prop := normalComparesRow.holds Tryz.pinned (OpenSpec.ofChange normalComparesWrong)

/-- 'trustquorumlaw07.DeclarationSigns': WHATEVER THE INPUT: true; the input reads as it did. -/
def declarationSignsSpec : ChangeSpec := { name := "declarationSigns", fn := fun _ => fun
  | [d] => { results := [.lit (.bool true)], args := [d] }
  | _ => none }
def declarationSignsRow : OpenClaim := { program := "ytpdhckbiioobhaagreatdoor", sum := "59f52b3a9b76f1e2c2717becc90ff7d3c8abccbbdc9bf3cae2cdba4bce27da7e", func := "trustquorum/trustquorumlaw07.DeclarationSigns", spec := "declarationSigns", inPlace := ["internal/abi.NoEscape", "internal/bytealg.MakeNoZero", "internal/bytealg.IndexByteString", "internal/bytealg.IndexString"], unfollowed := true, recurses := true, named := ["internal/strconv.uint64pow10", "math/bits.deBruijn32tab", "math/bits.deBruijn64tab", "internal/bytealg.MaxLen", "strconv.ErrSyntax", "strconv.ErrRange"], apart := false, laid := [("math/bits.deBruijn32tab", laid_math_bits_deBruijn32tab), ("math/bits.deBruijn64tab", laid_math_bits_deBruijn64tab), ("internal/strconv.uint64pow10", laid_internal_strconv_uint64pow10), ("strconv.ErrRange", laid_strconv_ErrRange), ("strconv.ErrSyntax", laid_strconv_ErrSyntax)] }
def DeclarationSignsSaid : Prop := declarationSignsRow.holds Tryz.pinned (OpenSpec.ofChange declarationSignsSpec)

/-- ITS FALSE NEIGHBOUR: 'it returns false'. Refute it at one input. -/
def declarationSignsWrong : ChangeSpec := { name := "declarationSigns", fn := fun _ => fun
  | [d] => { results := [.lit (.bool false)], args := [d] }
  | _ => none }
def DeclarationSignsWrongFalsely : Prop := declarationSignsRow.holds Tryz.pinned (OpenSpec.ofChange declarationSignsWrong)

/-- 'trustquorumlaw04.NormalAnswers': WHATEVER THE INPUT: true; the input reads as it did. -/
def normalAnswersSpec : ChangeSpec := { name := "normalAnswers", fn := fun _ => fun
  | [d1, d2, d3] => { results := [.lit (.bool true)], args := [d1, d2, d3] }
  | _ => none }
def normalAnswersRow : OpenClaim := { program := "ytpdhckbiioobhaagreatdoor", sum := "59f52b3a9b76f1e2c2717becc90ff7d3c8abccbbdc9bf3cae2cdba4bce27da7e", func := "trustquorum/trustquorumlaw04.NormalAnswers", spec := "normalAnswers", unfollowed := true, recurses := true, named := ["internal/strconv.uint64pow10", "math/bits.deBruijn32tab", "math/bits.deBruijn64tab"], loops := true, apart := false, laid := [("math/bits.deBruijn32tab", laid_math_bits_deBruijn32tab), ("math/bits.deBruijn64tab", laid_math_bits_deBruijn64tab), ("internal/strconv.uint64pow10", laid_internal_strconv_uint64pow10)] }
def NormalAnswersSaid : Prop := normalAnswersRow.holds Tryz.pinned (OpenSpec.ofChange normalAnswersSpec)

/-- ITS FALSE NEIGHBOUR: 'it returns false'. Refute it at one input. -/
def normalAnswersWrong : ChangeSpec := { name := "normalAnswers", fn := fun _ => fun
  | [d1, d2, d3] => { results := [.lit (.bool false)], args := [d1, d2, d3] }
  | _ => none }
def NormalAnswersWrongFalsely : Prop := normalAnswersRow.holds Tryz.pinned (OpenSpec.ofChange normalAnswersWrong)

/-- 'trustquorumlaw04.NormalAgain': WHATEVER THE INPUT: true; the input reads as it did. -/
def normalAgainSpec : ChangeSpec := { name := "normalAgain", fn := fun _ => fun
  | [d] => { results := [.lit (.bool true)], args := [d] }
  | _ => none }
def normalAgainRow : OpenClaim := { program := "ytpdhckbiioobhaagreatdoor", sum := "59f52b3a9b76f1e2c2717becc90ff7d3c8abccbbdc9bf3cae2cdba4bce27da7e", func := "trustquorum/trustquorumlaw04.NormalAgain", spec := "normalAgain", unfollowed := true, recurses := true, named := ["internal/strconv.uint64pow10", "math/bits.deBruijn32tab", "math/bits.deBruijn64tab"], apart := false, laid := [("math/bits.deBruijn32tab", laid_math_bits_deBruijn32tab), ("math/bits.deBruijn64tab", laid_math_bits_deBruijn64tab), ("internal/strconv.uint64pow10", laid_internal_strconv_uint64pow10)] }
def NormalAgainSaid : Prop := normalAgainRow.holds Tryz.pinned (OpenSpec.ofChange normalAgainSpec)

/-- ITS FALSE NEIGHBOUR: 'it returns false'. Refute it at one input. -/
def normalAgainWrong : ChangeSpec := { name := "normalAgain", fn := fun _ => fun
  | [d] => { results := [.lit (.bool false)], args := [d] }
  | _ => none }
def NormalAgainWrongFalsely : Prop := normalAgainRow.holds Tryz.pinned (OpenSpec.ofChange normalAgainWrong)

/-- 'trustquorumlaw06.ConfigurationRestricts': WHATEVER THE INPUT: true; the input reads as it did. -/
def configurationRestrictsSpec : ChangeSpec := { name := "configurationRestricts", fn := fun _ => fun
  | [d] => { results := [.lit (.bool true)], args := [d] }
  | _ => none }
def configurationRestrictsRow : OpenClaim := { program := "ytpdhckbiioobhaagreatdoor", sum := "59f52b3a9b76f1e2c2717becc90ff7d3c8abccbbdc9bf3cae2cdba4bce27da7e", func := "trustquorum/trustquorumlaw06.ConfigurationRestricts", spec := "configurationRestricts", inPlace := ["internal/bytealg.CountString", "internal/bytealg.IndexByteString", "internal/bytealg.IndexString", "internal/abi.NoEscape", "internal/bytealg.MakeNoZero"], unfollowed := true, recurses := true, named := ["unicode/utf8.first", "unicode/utf8.acceptRanges", "internal/bytealg.MaxLen", "internal/strconv.uint64pow10", "math/bits.deBruijn32tab", "math/bits.deBruijn64tab", "strconv.ErrSyntax", "strconv.ErrRange"], apart := false, laid := [("math/bits.deBruijn32tab", laid_math_bits_deBruijn32tab), ("math/bits.deBruijn64tab", laid_math_bits_deBruijn64tab), ("internal/strconv.uint64pow10", laid_internal_strconv_uint64pow10), ("unicode/utf8.acceptRanges", laid_unicode_utf8_acceptRanges), ("strconv.ErrRange", laid_strconv_ErrRange), ("strconv.ErrSyntax", laid_strconv_ErrSyntax), ("unicode/utf8.first", laid_unicode_utf8_first)] }
def ConfigurationRestrictsSaid : Prop := configurationRestrictsRow.holds Tryz.pinned (OpenSpec.ofChange configurationRestrictsSpec)

/-- ITS FALSE NEIGHBOUR: 'it returns false'. Refute it at one input. -/
def configurationRestrictsWrong : ChangeSpec := { name := "configurationRestricts", fn := fun _ => fun
  | [d] => { results := [.lit (.bool false)], args := [d] }
  | _ => none }
def ConfigurationRestrictsWrongFalsely : Prop := configurationRestrictsRow.holds Tryz.pinned (OpenSpec.ofChange configurationRestrictsWrong)

/-- 'trustquorumlaw06.ConfigurationTexts': WHATEVER THE INPUT: true; the input reads as it did. -/
def configurationTextsSpec : ChangeSpec := { name := "configurationTexts", fn := fun _ => fun
  | [d] => { results := [.lit (.bool true)], args := [d] }
  | _ => none }
def configurationTextsRow : OpenClaim := { program := "ytpdhckbiioobhaagreatdoor", sum := "59f52b3a9b76f1e2c2717becc90ff7d3c8abccbbdc9bf3cae2cdba4bce27da7e", func := "trustquorum/trustquorumlaw06.ConfigurationTexts", spec := "configurationTexts", inPlace := ["internal/abi.NoEscape", "internal/bytealg.MakeNoZero", "internal/bytealg.CountString", "internal/bytealg.IndexByteString", "internal/bytealg.IndexString"], unfollowed := true, recurses := true, named := ["internal/strconv.uint64pow10", "math/bits.deBruijn32tab", "math/bits.deBruijn64tab", "unicode/utf8.first", "unicode/utf8.acceptRanges", "internal/bytealg.MaxLen", "strconv.ErrSyntax", "strconv.ErrRange"], apart := false, laid := [("math/bits.deBruijn32tab", laid_math_bits_deBruijn32tab), ("math/bits.deBruijn64tab", laid_math_bits_deBruijn64tab), ("internal/strconv.uint64pow10", laid_internal_strconv_uint64pow10), ("unicode/utf8.acceptRanges", laid_unicode_utf8_acceptRanges), ("strconv.ErrRange", laid_strconv_ErrRange), ("strconv.ErrSyntax", laid_strconv_ErrSyntax), ("unicode/utf8.first", laid_unicode_utf8_first)] }
def ConfigurationTextsSaid : Prop := configurationTextsRow.holds Tryz.pinned (OpenSpec.ofChange configurationTextsSpec)

/-- ITS FALSE NEIGHBOUR: 'it returns false'. Refute it at one input. -/
def configurationTextsWrong : ChangeSpec := { name := "configurationTexts", fn := fun _ => fun
  | [d] => { results := [.lit (.bool false)], args := [d] }
  | _ => none }
def ConfigurationTextsWrongFalsely : Prop := configurationTextsRow.holds Tryz.pinned (OpenSpec.ofChange configurationTextsWrong)

/-- 'trustquorumlaw07.DeclarationAnswers': WHATEVER THE INPUT: true; the input reads as it did. -/
def declarationAnswersSpec : ChangeSpec := { name := "declarationAnswers", fn := fun _ => fun
  | [d1, d2, d3, d4, d5, d6] => { results := [.lit (.bool true)], args := [d1, d2, d3, d4, d5, d6] }
  | _ => none }
def declarationAnswersRow : OpenClaim := { program := "ytpdhckbiioobhaagreatdoor", sum := "59f52b3a9b76f1e2c2717becc90ff7d3c8abccbbdc9bf3cae2cdba4bce27da7e", func := "trustquorum/trustquorumlaw07.DeclarationAnswers", spec := "declarationAnswers", inPlace := ["internal/abi.NoEscape", "internal/bytealg.MakeNoZero", "internal/bytealg.IndexByteString", "internal/bytealg.IndexString"], unfollowed := true, recurses := true, named := ["internal/strconv.uint64pow10", "math/bits.deBruijn32tab", "math/bits.deBruijn64tab", "internal/bytealg.MaxLen", "strconv.ErrSyntax", "strconv.ErrRange"], loops := true, apart := false, laid := [("math/bits.deBruijn32tab", laid_math_bits_deBruijn32tab), ("math/bits.deBruijn64tab", laid_math_bits_deBruijn64tab), ("internal/strconv.uint64pow10", laid_internal_strconv_uint64pow10), ("strconv.ErrRange", laid_strconv_ErrRange), ("strconv.ErrSyntax", laid_strconv_ErrSyntax)] }
def DeclarationAnswersSaid : Prop := declarationAnswersRow.holds Tryz.pinned (OpenSpec.ofChange declarationAnswersSpec)

/-- ITS FALSE NEIGHBOUR: 'it returns false'. Refute it at one input. -/
def declarationAnswersWrong : ChangeSpec := { name := "declarationAnswers", fn := fun _ => fun
  | [d1, d2, d3, d4, d5, d6] => { results := [.lit (.bool false)], args := [d1, d2, d3, d4, d5, d6] }
  | _ => none }
def DeclarationAnswersWrongFalsely : Prop := declarationAnswersRow.holds Tryz.pinned (OpenSpec.ofChange declarationAnswersWrong)

/- THE SECOND FORM. 'bulk': how many values and letters a reading holds, each counted each time it is reached (what is shared counts as often as it is met; a slice's spare places count too). A statement '..UptoSaid' is the law's where the arguments, and the package variables that the reading takes, are together of bulk at most 1048576: NARROWER than '..Said'. Prove '..Said' where nothing that the law and all that it calls make is longer than what came in: it says more and counts as full. Else prove '..UptoSaid'. A law counts once. -/
mutual
def uptoBulk {H : Type} : DataW H → Nat
  | .lit (.string bytes) => bytes.length + 1
  | .lit _ => 1
  | .nil => 1
  | .ptr d => uptoBulk d + 1
  | .slice elems spare => uptoBulkAll elems + uptoBulkAll spare + 1
  | .agg parts => uptoBulkAll parts + 1
  | .iface _ d => uptoBulk d + 1
  | .map entries => uptoBulkEntries entries + 1
  | .held _ => 1
def uptoBulkAll {H : Type} : List (DataW H) → Nat
  | [] => 0
  | d :: r => uptoBulk d + uptoBulkAll r
def uptoBulkEntries {H : Type} : List (Lit × DataW H) → Nat
  | [] => 0
  | x :: r => uptoBulkEntry x + uptoBulkEntries r
def uptoBulkEntry {H : Type} : Lit × DataW H → Nat
  | (.string bytes, d) => bytes.length + uptoBulk d + 1
  | (_, d) => uptoBulk d + 1
 end
def uptoSmall : (H : Type) → List (DataW H) → Bool := fun _ ds => decide (uptoBulkAll ds ≤ 1048576)
def OpenSpec.upto (s : _root_.Go.ChangeSpec) : _root_.Go.OpenSpec := { _root_.Go.OpenSpec.ofChange s with cond := some uptoSmall }

/-- 'trustquorumlaw06.ConfigurationLines', WHERE WHAT IT READS IS OF BULK AT MOST 1048576: true; the input reads as it did. -/
def configurationLinesUptoRow : OpenClaim := { program := "ytpdhckbiioobhaagreatdoor", sum := "59f52b3a9b76f1e2c2717becc90ff7d3c8abccbbdc9bf3cae2cdba4bce27da7e", func := "trustquorum/trustquorumlaw06.ConfigurationLines", spec := "configurationLines", inPlace := ["internal/bytealg.CountString", "internal/bytealg.IndexByteString", "internal/bytealg.IndexString", "internal/abi.NoEscape", "internal/bytealg.MakeNoZero"], unfollowed := true, recurses := true, named := ["internal/strconv.uint64pow10", "math/bits.deBruijn32tab", "math/bits.deBruijn64tab", "unicode/utf8.first", "unicode/utf8.acceptRanges", "internal/bytealg.MaxLen", "strconv.ErrSyntax", "strconv.ErrRange"], apart := false, laid := [("math/bits.deBruijn32tab", laid_math_bits_deBruijn32tab), ("math/bits.deBruijn64tab", laid_math_bits_deBruijn64tab), ("internal/strconv.uint64pow10", laid_internal_strconv_uint64pow10), ("unicode/utf8.acceptRanges", laid_unicode_utf8_acceptRanges), ("strconv.ErrRange", laid_strconv_ErrRange), ("strconv.ErrSyntax", laid_strconv_ErrSyntax), ("unicode/utf8.first", laid_unicode_utf8_first)], narrowed := true }
def ConfigurationLinesUptoSaid : Prop := configurationLinesUptoRow.holds Tryz.pinned (OpenSpec.upto configurationLinesSpec)

/-- 'trustquorumlaw04.NormalMeans', WHERE WHAT IT READS IS OF BULK AT MOST 1048576: true; the input reads as it did. -/
def normalMeansUptoRow : OpenClaim := { program := "ytpdhckbiioobhaagreatdoor", sum := "59f52b3a9b76f1e2c2717becc90ff7d3c8abccbbdc9bf3cae2cdba4bce27da7e", func := "trustquorum/trustquorumlaw04.NormalMeans", spec := "normalMeans", unfollowed := true, recurses := true, named := ["internal/strconv.uint64pow10", "math/bits.deBruijn32tab", "math/bits.deBruijn64tab"], apart := false, laid := [("math/bits.deBruijn32tab", laid_math_bits_deBruijn32tab), ("math/bits.deBruijn64tab", laid_math_bits_deBruijn64tab), ("internal/strconv.uint64pow10", laid_internal_strconv_uint64pow10)], narrowed := true }
def NormalMeansUptoSaid : Prop := normalMeansUptoRow.holds Tryz.pinned (OpenSpec.upto normalMeansSpec)

/-- 'trustquorumlaw04.NormalOrder', WHERE WHAT IT READS IS OF BULK AT MOST 1048576: true; the input reads as it did. -/
def normalOrderUptoRow : OpenClaim := { program := "ytpdhckbiioobhaagreatdoor", sum := "59f52b3a9b76f1e2c2717becc90ff7d3c8abccbbdc9bf3cae2cdba4bce27da7e", func := "trustquorum/trustquorumlaw04.NormalOrder", spec := "normalOrder", unfollowed := true, recurses := true, named := ["internal/strconv.uint64pow10", "math/bits.deBruijn32tab", "math/bits.deBruijn64tab"], apart := false, laid := [("math/bits.deBruijn32tab", laid_math_bits_deBruijn32tab), ("math/bits.deBruijn64tab", laid_math_bits_deBruijn64tab), ("internal/strconv.uint64pow10", laid_internal_strconv_uint64pow10)], narrowed := true }
def NormalOrderUptoSaid : Prop := normalOrderUptoRow.holds Tryz.pinned (OpenSpec.upto normalOrderSpec)

/-- 'trustquorumlaw04.NormalCompares', WHERE WHAT IT READS IS OF BULK AT MOST 1048576: true; the input reads as it did. -/
def normalComparesUptoRow : OpenClaim := { program := "ytpdhckbiioobhaagreatdoor", sum := "59f52b3a9b76f1e2c2717becc90ff7d3c8abccbbdc9bf3cae2cdba4bce27da7e", func := "trustquorum/trustquorumlaw04.NormalCompares", spec := "normalCompares", unfollowed := true, recurses := true, named := ["internal/strconv.uint64pow10", "math/bits.deBruijn32tab", "math/bits.deBruijn64tab"], loops := true, apart := false, laid := [("math/bits.deBruijn32tab", laid_math_bits_deBruijn32tab), ("math/bits.deBruijn64tab", laid_math_bits_deBruijn64tab), ("internal/strconv.uint64pow10", laid_internal_strconv_uint64pow10)], narrowed := true }
def NormalComparesUptoSaid : Prop := normalComparesUptoRow.holds Tryz.pinned (OpenSpec.upto normalComparesSpec)

/-- 'trustquorumlaw07.DeclarationSigns', WHERE WHAT IT READS IS OF BULK AT MOST 1048576: true; the input reads as it did. -/
def declarationSignsUptoRow : OpenClaim := { program := "ytpdhckbiioobhaagreatdoor", sum := "59f52b3a9b76f1e2c2717becc90ff7d3c8abccbbdc9bf3cae2cdba4bce27da7e", func := "trustquorum/trustquorumlaw07.DeclarationSigns", spec := "declarationSigns", inPlace := ["internal/abi.NoEscape", "internal/bytealg.MakeNoZero", "internal/bytealg.IndexByteString", "internal/bytealg.IndexString"], unfollowed := true, recurses := true, named := ["internal/strconv.uint64pow10", "math/bits.deBruijn32tab", "math/bits.deBruijn64tab", "internal/bytealg.MaxLen", "strconv.ErrSyntax", "strconv.ErrRange"], apart := false, laid := [("math/bits.deBruijn32tab", laid_math_bits_deBruijn32tab), ("math/bits.deBruijn64tab", laid_math_bits_deBruijn64tab), ("internal/strconv.uint64pow10", laid_internal_strconv_uint64pow10), ("strconv.ErrRange", laid_strconv_ErrRange), ("strconv.ErrSyntax", laid_strconv_ErrSyntax)], narrowed := true }
def DeclarationSignsUptoSaid : Prop := declarationSignsUptoRow.holds Tryz.pinned (OpenSpec.upto declarationSignsSpec)

/-- 'trustquorumlaw04.NormalAnswers', WHERE WHAT IT READS IS OF BULK AT MOST 1048576: true; the input reads as it did. -/
def normalAnswersUptoRow : OpenClaim := { program := "ytpdhckbiioobhaagreatdoor", sum := "59f52b3a9b76f1e2c2717becc90ff7d3c8abccbbdc9bf3cae2cdba4bce27da7e", func := "trustquorum/trustquorumlaw04.NormalAnswers", spec := "normalAnswers", unfollowed := true, recurses := true, named := ["internal/strconv.uint64pow10", "math/bits.deBruijn32tab", "math/bits.deBruijn64tab"], loops := true, apart := false, laid := [("math/bits.deBruijn32tab", laid_math_bits_deBruijn32tab), ("math/bits.deBruijn64tab", laid_math_bits_deBruijn64tab), ("internal/strconv.uint64pow10", laid_internal_strconv_uint64pow10)], narrowed := true }
def NormalAnswersUptoSaid : Prop := normalAnswersUptoRow.holds Tryz.pinned (OpenSpec.upto normalAnswersSpec)

/-- 'trustquorumlaw04.NormalAgain', WHERE WHAT IT READS IS OF BULK AT MOST 1048576: true; the input reads as it did. -/
def normalAgainUptoRow : OpenClaim := { program := "ytpdhckbiioobhaagreatdoor", sum := "59f52b3a9b76f1e2c2717becc90ff7d3c8abccbbdc9bf3cae2cdba4bce27da7e", func := "trustquorum/trustquorumlaw04.NormalAgain", spec := "normalAgain", unfollowed := true, recurses := true, named := ["internal/strconv.uint64pow10", "math/bits.deBruijn32tab", "math/bits.deBruijn64tab"], apart := false, laid := [("math/bits.deBruijn32tab", laid_math_bits_deBruijn32tab), ("math/bits.deBruijn64tab", laid_math_bits_deBruijn64tab), ("internal/strconv.uint64pow10", laid_internal_strconv_uint64pow10)], narrowed := true }
def NormalAgainUptoSaid : Prop := normalAgainUptoRow.holds Tryz.pinned (OpenSpec.upto normalAgainSpec)

/-- 'trustquorumlaw06.ConfigurationRestricts', WHERE WHAT IT READS IS OF BULK AT MOST 1048576: true; the input reads as it did. -/
def configurationRestrictsUptoRow : OpenClaim := { program := "ytpdhckbiioobhaagreatdoor", sum := "59f52b3a9b76f1e2c2717becc90ff7d3c8abccbbdc9bf3cae2cdba4bce27da7e", func := "trustquorum/trustquorumlaw06.ConfigurationRestricts", spec := "configurationRestricts", inPlace := ["internal/bytealg.CountString", "internal/bytealg.IndexByteString", "internal/bytealg.IndexString", "internal/abi.NoEscape", "internal/bytealg.MakeNoZero"], unfollowed := true, recurses := true, named := ["unicode/utf8.first", "unicode/utf8.acceptRanges", "internal/bytealg.MaxLen", "internal/strconv.uint64pow10", "math/bits.deBruijn32tab", "math/bits.deBruijn64tab", "strconv.ErrSyntax", "strconv.ErrRange"], apart := false, laid := [("math/bits.deBruijn32tab", laid_math_bits_deBruijn32tab), ("math/bits.deBruijn64tab", laid_math_bits_deBruijn64tab), ("internal/strconv.uint64pow10", laid_internal_strconv_uint64pow10), ("unicode/utf8.acceptRanges", laid_unicode_utf8_acceptRanges), ("strconv.ErrRange", laid_strconv_ErrRange), ("strconv.ErrSyntax", laid_strconv_ErrSyntax), ("unicode/utf8.first", laid_unicode_utf8_first)], narrowed := true }
def ConfigurationRestrictsUptoSaid : Prop := configurationRestrictsUptoRow.holds Tryz.pinned (OpenSpec.upto configurationRestrictsSpec)

/-- 'trustquorumlaw06.ConfigurationTexts', WHERE WHAT IT READS IS OF BULK AT MOST 1048576: true; the input reads as it did. -/
def configurationTextsUptoRow : OpenClaim := { program := "ytpdhckbiioobhaagreatdoor", sum := "59f52b3a9b76f1e2c2717becc90ff7d3c8abccbbdc9bf3cae2cdba4bce27da7e", func := "trustquorum/trustquorumlaw06.ConfigurationTexts", spec := "configurationTexts", inPlace := ["internal/abi.NoEscape", "internal/bytealg.MakeNoZero", "internal/bytealg.CountString", "internal/bytealg.IndexByteString", "internal/bytealg.IndexString"], unfollowed := true, recurses := true, named := ["internal/strconv.uint64pow10", "math/bits.deBruijn32tab", "math/bits.deBruijn64tab", "unicode/utf8.first", "unicode/utf8.acceptRanges", "internal/bytealg.MaxLen", "strconv.ErrSyntax", "strconv.ErrRange"], apart := false, laid := [("math/bits.deBruijn32tab", laid_math_bits_deBruijn32tab), ("math/bits.deBruijn64tab", laid_math_bits_deBruijn64tab), ("internal/strconv.uint64pow10", laid_internal_strconv_uint64pow10), ("unicode/utf8.acceptRanges", laid_unicode_utf8_acceptRanges), ("strconv.ErrRange", laid_strconv_ErrRange), ("strconv.ErrSyntax", laid_strconv_ErrSyntax), ("unicode/utf8.first", laid_unicode_utf8_first)], narrowed := true }
def ConfigurationTextsUptoSaid : Prop := configurationTextsUptoRow.holds Tryz.pinned (OpenSpec.upto configurationTextsSpec)

/-- 'trustquorumlaw07.DeclarationAnswers', WHERE WHAT IT READS IS OF BULK AT MOST 1048576: true; the input reads as it did. -/
def declarationAnswersUptoRow : OpenClaim := { program := "ytpdhckbiioobhaagreatdoor", sum := "59f52b3a9b76f1e2c2717becc90ff7d3c8abccbbdc9bf3cae2cdba4bce27da7e", func := "trustquorum/trustquorumlaw07.DeclarationAnswers", spec := "declarationAnswers", inPlace := ["internal/abi.NoEscape", "internal/bytealg.MakeNoZero", "internal/bytealg.IndexByteString", "internal/bytealg.IndexString"], unfollowed := true, recurses := true, named := ["internal/strconv.uint64pow10", "math/bits.deBruijn32tab", "math/bits.deBruijn64tab", "internal/bytealg.MaxLen", "strconv.ErrSyntax", "strconv.ErrRange"], loops := true, apart := false, laid := [("math/bits.deBruijn32tab", laid_math_bits_deBruijn32tab), ("math/bits.deBruijn64tab", laid_math_bits_deBruijn64tab), ("internal/strconv.uint64pow10", laid_internal_strconv_uint64pow10), ("strconv.ErrRange", laid_strconv_ErrRange), ("strconv.ErrSyntax", laid_strconv_ErrSyntax)], narrowed := true }
def DeclarationAnswersUptoSaid : Prop := declarationAnswersUptoRow.holds Tryz.pinned (OpenSpec.upto declarationAnswersSpec)

end Rows
end Go.Proofs.YtpdhckbiioobhaaGreatDoor
