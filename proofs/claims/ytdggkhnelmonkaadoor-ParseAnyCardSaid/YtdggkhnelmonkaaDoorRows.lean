/-
  NARROWER THAN 'FOR EVERY INPUT', by the rows' own cells (each row's printed sentence says how): ParsePlaces: loops, laid · ParseDeep: laid · ParseReads: loops, laid · ParseAny: loops, laid · ParseGaps: loops, laid · ShowPrints: loops, laid · ShowRaw: loops, laid · ShowTypes: loops, laid · ShowBack: loops, laid · ShowAny: loops, laid.
  DERIVED. THE GIVEN ROWS OF THIS SEAT. 10 by the template 'for every input the law returns true; each argument reads behind the call as it read before'; 0 by the template 'total and deterministic' (their statements: YtdggkhnelmonkaaDoorTotals.lean).
  GIVEN WITH THE SEED: the statements are not yours to turn. If you find one false, say at which input.
  Laid BY PROGRAM, IN A SANDBOX (cutbox-rows.mjs): the forced cells as the released guide's own fill.sh prints them over the translation bdac0191530fe75c… (all of the seat's roots in one cut). By AI agents, Wed Nov 11 2026. No macro, syntax, notation, axiom, sorry.
-/
import Derived.Test.YtdggkhnelmonkaaDoorChecked
import GoSem.Claim
import GoSem.ClaimJoined
import GoSem.ClaimMapViews
import Derived.JoinedTies
import Derived.KernelRfl
namespace Go.Proofs.YtdggkhnelmonkaaDoor
/- THE CELL 'sum', in the pinned program and in every row, IS THE sha256 OF THE DUMP (.gsa) THAT YtdggkhnelmonkaaDoorProg.lean LOADS. Nothing in Lean hashes anything: it is a label: what it is worth is what the hold of that sum in a sandbox is worth. -/
noncomputable def Tryd.pinned : Pinned := { name := "ytdggkhnelmonkaadoor", sum := "bdac0191530fe75cda2231857c97f01989c395cf6b631b5ae022d4fc836850b7", checked := Tryd.checked }
namespace Rows
def none {H : Type} : Left H := { results := [], args := [] }

/- WHAT THE LISTED PACKAGE-LEVEL VARIABLES READ AS WHEN THE CALL BEGINS. Each datum BY PROGRAM (the guide's laid-datum.mjs) off the statement by which the dump's own 'gosem.cut.vars' lays the variable. In a bare row this is a premise. The card (YtdggkhnelmonkaaDoorCards.lean) ties it to the program's text. -/
def laid_prompter_kind_reserved {H : Type} : DataW H := .slice [.lit (.string [98, 111, 111, 108]), .lit (.string [99, 97, 114, 100]), .lit (.string [108, 111, 110, 103]), .lit (.string [114, 101, 97, 108]), .lit (.string [116, 101, 120, 116]), .lit (.string [115, 101, 113]), .lit (.string [111, 102]), .lit (.string [114, 101, 99, 111, 114, 100]), .lit (.string [101, 110, 117, 109]), .lit (.string [99, 104, 111, 105, 99, 101]), .lit (.string [112, 114, 111, 103, 114, 97, 109]), .lit (.string [118, 101, 114, 115, 105, 111, 110]), .lit (.string [116, 121, 112, 101]), .lit (.string [101, 114, 114, 111, 114]), .lit (.string [112, 114, 111, 99]), .lit (.string [114, 101, 116, 117, 114, 110, 115]), .lit (.string [99, 111, 108, 108, 97, 116, 101]), .lit (.string [116, 105, 109, 101, 111, 117, 116]), .lit (.string [102, 105, 114, 115, 116]), .lit (.string [109, 97, 106, 111, 114, 105, 116, 121]), .lit (.string [97, 108, 108])] []
def laid_math_bits_deBruijn32tab {H : Type} : DataW H := .agg [.lit (.int .u8 0), .lit (.int .u8 1), .lit (.int .u8 28), .lit (.int .u8 2), .lit (.int .u8 29), .lit (.int .u8 14), .lit (.int .u8 24), .lit (.int .u8 3), .lit (.int .u8 30), .lit (.int .u8 22), .lit (.int .u8 20), .lit (.int .u8 15), .lit (.int .u8 25), .lit (.int .u8 17), .lit (.int .u8 4), .lit (.int .u8 8), .lit (.int .u8 31), .lit (.int .u8 27), .lit (.int .u8 13), .lit (.int .u8 23), .lit (.int .u8 21), .lit (.int .u8 19), .lit (.int .u8 16), .lit (.int .u8 7), .lit (.int .u8 26), .lit (.int .u8 12), .lit (.int .u8 18), .lit (.int .u8 6), .lit (.int .u8 11), .lit (.int .u8 5), .lit (.int .u8 10), .lit (.int .u8 9)]
def laid_math_bits_deBruijn64tab {H : Type} : DataW H := .agg [.lit (.int .u8 0), .lit (.int .u8 1), .lit (.int .u8 56), .lit (.int .u8 2), .lit (.int .u8 57), .lit (.int .u8 49), .lit (.int .u8 28), .lit (.int .u8 3), .lit (.int .u8 61), .lit (.int .u8 58), .lit (.int .u8 42), .lit (.int .u8 50), .lit (.int .u8 38), .lit (.int .u8 29), .lit (.int .u8 17), .lit (.int .u8 4), .lit (.int .u8 62), .lit (.int .u8 47), .lit (.int .u8 59), .lit (.int .u8 36), .lit (.int .u8 45), .lit (.int .u8 43), .lit (.int .u8 51), .lit (.int .u8 22), .lit (.int .u8 53), .lit (.int .u8 39), .lit (.int .u8 33), .lit (.int .u8 30), .lit (.int .u8 24), .lit (.int .u8 18), .lit (.int .u8 12), .lit (.int .u8 5), .lit (.int .u8 63), .lit (.int .u8 55), .lit (.int .u8 48), .lit (.int .u8 27), .lit (.int .u8 60), .lit (.int .u8 41), .lit (.int .u8 37), .lit (.int .u8 16), .lit (.int .u8 46), .lit (.int .u8 35), .lit (.int .u8 44), .lit (.int .u8 21), .lit (.int .u8 52), .lit (.int .u8 32), .lit (.int .u8 23), .lit (.int .u8 11), .lit (.int .u8 54), .lit (.int .u8 26), .lit (.int .u8 40), .lit (.int .u8 15), .lit (.int .u8 34), .lit (.int .u8 20), .lit (.int .u8 31), .lit (.int .u8 10), .lit (.int .u8 25), .lit (.int .u8 14), .lit (.int .u8 19), .lit (.int .u8 9), .lit (.int .u8 13), .lit (.int .u8 8), .lit (.int .u8 7), .lit (.int .u8 6)]
def laid_internal_strconv_uint64pow10 {H : Type} : DataW H := .agg [.lit (.int .u64 1), .lit (.int .u64 10), .lit (.int .u64 100), .lit (.int .u64 1000), .lit (.int .u64 10000), .lit (.int .u64 100000), .lit (.int .u64 1000000), .lit (.int .u64 10000000), .lit (.int .u64 100000000), .lit (.int .u64 1000000000), .lit (.int .u64 10000000000), .lit (.int .u64 100000000000), .lit (.int .u64 1000000000000), .lit (.int .u64 10000000000000), .lit (.int .u64 100000000000000), .lit (.int .u64 1000000000000000), .lit (.int .u64 10000000000000000), .lit (.int .u64 100000000000000000), .lit (.int .u64 1000000000000000000), .lit (.int .u64 10000000000000000000)]
def laid_prompter_show_collators {H : Type} : DataW H := .agg [.lit (.string [102, 105, 114, 115, 116]), .lit (.string [109, 97, 106, 111, 114, 105, 116, 121]), .lit (.string [97, 108, 108])]

/-- 'prompterlaw06.ParsePlaces': WHATEVER THE INPUT: true; the input reads as it did. -/
def parsePlacesSpec : ChangeSpec := { name := "parsePlaces", fn := fun _ => fun
  | [d1, d2, d3] => { results := [.lit (.bool true)], args := [d1, d2, d3] }
  | _ => none }
def parsePlacesRow : OpenClaim := { program := "ytdggkhnelmonkaadoor", sum := "bdac0191530fe75cda2231857c97f01989c395cf6b631b5ae022d4fc836850b7", func := "prompter/prompterlaw06.ParsePlaces", spec := "parsePlaces", unfollowed := true, recurses := true, named := ["prompter/kind.reserved"], loops := true, apart := false, laid := [("prompter/kind.reserved", laid_prompter_kind_reserved)] }
def ParsePlacesSaid : Prop := parsePlacesRow.holds Tryd.pinned (OpenSpec.ofChange parsePlacesSpec)

/-- ITS FALSE NEIGHBOUR: 'it returns false'. Refute it at one input. -/
def parsePlacesWrong : ChangeSpec := { name := "parsePlaces", fn := fun _ => fun
  | [d1, d2, d3] => { results := [.lit (.bool false)], args := [d1, d2, d3] }
  | _ => none }
def ParsePlacesWrongFalsely : Prop := parsePlacesRow.holds Tryd.pinned (OpenSpec.ofChange parsePlacesWrong)

/-- 'prompterlaw06.ParseDeep': WHATEVER THE INPUT: true; the input reads as it did. -/
def parseDeepSpec : ChangeSpec := { name := "parseDeep", fn := fun _ => fun
  | [d1, d2] => { results := [.lit (.bool true)], args := [d1, d2] }
  | _ => none }
def parseDeepRow : OpenClaim := { program := "ytdggkhnelmonkaadoor", sum := "bdac0191530fe75cda2231857c97f01989c395cf6b631b5ae022d4fc836850b7", func := "prompter/prompterlaw06.ParseDeep", spec := "parseDeep", unfollowed := true, recurses := true, named := ["prompter/kind.reserved"], apart := false, laid := [("prompter/kind.reserved", laid_prompter_kind_reserved)] }
def ParseDeepSaid : Prop := parseDeepRow.holds Tryd.pinned (OpenSpec.ofChange parseDeepSpec)

/-- ITS FALSE NEIGHBOUR: 'it returns false'. Refute it at one input. -/
def parseDeepWrong : ChangeSpec := { name := "parseDeep", fn := fun _ => fun
  | [d1, d2] => { results := [.lit (.bool false)], args := [d1, d2] }
  | _ => none }
def ParseDeepWrongFalsely : Prop := parseDeepRow.holds Tryd.pinned (OpenSpec.ofChange parseDeepWrong)

/-- 'prompterlaw06.ParseReads': WHATEVER THE INPUT: true; the input reads as it did. -/
def parseReadsSpec : ChangeSpec := { name := "parseReads", fn := fun _ => fun
  | [d1, d2] => { results := [.lit (.bool true)], args := [d1, d2] }
  | _ => none }
def parseReadsRow : OpenClaim := { program := "ytdggkhnelmonkaadoor", sum := "bdac0191530fe75cda2231857c97f01989c395cf6b631b5ae022d4fc836850b7", func := "prompter/prompterlaw06.ParseReads", spec := "parseReads", unfollowed := true, recurses := true, named := ["prompter/kind.reserved"], loops := true, apart := false, laid := [("prompter/kind.reserved", laid_prompter_kind_reserved)] }
def ParseReadsSaid : Prop := parseReadsRow.holds Tryd.pinned (OpenSpec.ofChange parseReadsSpec)

/-- ITS FALSE NEIGHBOUR: 'it returns false'. Refute it at one input. -/
def parseReadsWrong : ChangeSpec := { name := "parseReads", fn := fun _ => fun
  | [d1, d2] => { results := [.lit (.bool false)], args := [d1, d2] }
  | _ => none }
def ParseReadsWrongFalsely : Prop := parseReadsRow.holds Tryd.pinned (OpenSpec.ofChange parseReadsWrong)

/-- 'prompterlaw06.ParseAny': WHATEVER THE INPUT: true; the input reads as it did. -/
def parseAnySpec : ChangeSpec := { name := "parseAny", fn := fun _ => fun
  | [d1, d2, d3, d4, d5] => { results := [.lit (.bool true)], args := [d1, d2, d3, d4, d5] }
  | _ => none }
def parseAnyRow : OpenClaim := { program := "ytdggkhnelmonkaadoor", sum := "bdac0191530fe75cda2231857c97f01989c395cf6b631b5ae022d4fc836850b7", func := "prompter/prompterlaw06.ParseAny", spec := "parseAny", unfollowed := true, recurses := true, named := ["prompter/kind.reserved"], loops := true, apart := false, laid := [("prompter/kind.reserved", laid_prompter_kind_reserved)] }
def ParseAnySaid : Prop := parseAnyRow.holds Tryd.pinned (OpenSpec.ofChange parseAnySpec)

/-- ITS FALSE NEIGHBOUR: 'it returns false'. Refute it at one input. -/
def parseAnyWrong : ChangeSpec := { name := "parseAny", fn := fun _ => fun
  | [d1, d2, d3, d4, d5] => { results := [.lit (.bool false)], args := [d1, d2, d3, d4, d5] }
  | _ => none }
def ParseAnyWrongFalsely : Prop := parseAnyRow.holds Tryd.pinned (OpenSpec.ofChange parseAnyWrong)

/-- 'prompterlaw06.ParseGaps': WHATEVER THE INPUT: true; the input reads as it did. -/
def parseGapsSpec : ChangeSpec := { name := "parseGaps", fn := fun _ => fun
  | [d1, d2, d3, d4] => { results := [.lit (.bool true)], args := [d1, d2, d3, d4] }
  | _ => none }
def parseGapsRow : OpenClaim := { program := "ytdggkhnelmonkaadoor", sum := "bdac0191530fe75cda2231857c97f01989c395cf6b631b5ae022d4fc836850b7", func := "prompter/prompterlaw06.ParseGaps", spec := "parseGaps", unfollowed := true, recurses := true, named := ["prompter/kind.reserved"], loops := true, apart := false, laid := [("prompter/kind.reserved", laid_prompter_kind_reserved)] }
def ParseGapsSaid : Prop := parseGapsRow.holds Tryd.pinned (OpenSpec.ofChange parseGapsSpec)

/-- ITS FALSE NEIGHBOUR: 'it returns false'. Refute it at one input. -/
def parseGapsWrong : ChangeSpec := { name := "parseGaps", fn := fun _ => fun
  | [d1, d2, d3, d4] => { results := [.lit (.bool false)], args := [d1, d2, d3, d4] }
  | _ => none }
def ParseGapsWrongFalsely : Prop := parseGapsRow.holds Tryd.pinned (OpenSpec.ofChange parseGapsWrong)

/-- 'prompterlaw07.ShowPrints': WHATEVER THE INPUT: true; the input reads as it did. -/
def showPrintsSpec : ChangeSpec := { name := "showPrints", fn := fun _ => fun
  | [d] => { results := [.lit (.bool true)], args := [d] }
  | _ => none }
def showPrintsRow : OpenClaim := { program := "ytdggkhnelmonkaadoor", sum := "bdac0191530fe75cda2231857c97f01989c395cf6b631b5ae022d4fc836850b7", func := "prompter/prompterlaw07.ShowPrints", spec := "showPrints", inPlace := ["internal/abi.NoEscape", "internal/bytealg.MakeNoZero"], unfollowed := true, recurses := true, named := ["prompter/show.collators", "prompter/kind.reserved", "internal/strconv.uint64pow10", "math/bits.deBruijn32tab", "math/bits.deBruijn64tab"], loops := true, apart := false, laid := [("math/bits.deBruijn32tab", laid_math_bits_deBruijn32tab), ("math/bits.deBruijn64tab", laid_math_bits_deBruijn64tab), ("internal/strconv.uint64pow10", laid_internal_strconv_uint64pow10), ("prompter/kind.reserved", laid_prompter_kind_reserved), ("prompter/show.collators", laid_prompter_show_collators)] }
def ShowPrintsSaid : Prop := showPrintsRow.holds Tryd.pinned (OpenSpec.ofChange showPrintsSpec)

/-- ITS FALSE NEIGHBOUR: 'it returns false'. Refute it at one input. -/
def showPrintsWrong : ChangeSpec := { name := "showPrints", fn := fun _ => fun
  | [d] => { results := [.lit (.bool false)], args := [d] }
  | _ => none }
def ShowPrintsWrongFalsely : Prop := showPrintsRow.holds Tryd.pinned (OpenSpec.ofChange showPrintsWrong)

/-- 'prompterlaw07.ShowRaw': WHATEVER THE INPUT: true; the input reads as it did. -/
def showRawSpec : ChangeSpec := { name := "showRaw", fn := fun _ => fun
  | [d1, d2, d3, d4] => { results := [.lit (.bool true)], args := [d1, d2, d3, d4] }
  | _ => none }
def showRawRow : OpenClaim := { program := "ytdggkhnelmonkaadoor", sum := "bdac0191530fe75cda2231857c97f01989c395cf6b631b5ae022d4fc836850b7", func := "prompter/prompterlaw07.ShowRaw", spec := "showRaw", inPlace := ["internal/abi.NoEscape", "internal/bytealg.MakeNoZero"], unfollowed := true, recurses := true, named := ["prompter/show.collators", "prompter/kind.reserved", "internal/strconv.uint64pow10", "math/bits.deBruijn32tab", "math/bits.deBruijn64tab"], loops := true, apart := false, laid := [("math/bits.deBruijn32tab", laid_math_bits_deBruijn32tab), ("math/bits.deBruijn64tab", laid_math_bits_deBruijn64tab), ("internal/strconv.uint64pow10", laid_internal_strconv_uint64pow10), ("prompter/kind.reserved", laid_prompter_kind_reserved), ("prompter/show.collators", laid_prompter_show_collators)] }
def ShowRawSaid : Prop := showRawRow.holds Tryd.pinned (OpenSpec.ofChange showRawSpec)

/-- ITS FALSE NEIGHBOUR: 'it returns false'. Refute it at one input. -/
def showRawWrong : ChangeSpec := { name := "showRaw", fn := fun _ => fun
  | [d1, d2, d3, d4] => { results := [.lit (.bool false)], args := [d1, d2, d3, d4] }
  | _ => none }
def ShowRawWrongFalsely : Prop := showRawRow.holds Tryd.pinned (OpenSpec.ofChange showRawWrong)

/-- 'prompterlaw07.ShowTypes': WHATEVER THE INPUT: true; the input reads as it did. -/
def showTypesSpec : ChangeSpec := { name := "showTypes", fn := fun _ => fun
  | [d] => { results := [.lit (.bool true)], args := [d] }
  | _ => none }
def showTypesRow : OpenClaim := { program := "ytdggkhnelmonkaadoor", sum := "bdac0191530fe75cda2231857c97f01989c395cf6b631b5ae022d4fc836850b7", func := "prompter/prompterlaw07.ShowTypes", spec := "showTypes", inPlace := ["internal/abi.NoEscape", "internal/bytealg.MakeNoZero"], unfollowed := true, recurses := true, named := ["prompter/show.collators", "prompter/kind.reserved", "internal/strconv.uint64pow10", "math/bits.deBruijn32tab", "math/bits.deBruijn64tab"], loops := true, apart := false, laid := [("math/bits.deBruijn32tab", laid_math_bits_deBruijn32tab), ("math/bits.deBruijn64tab", laid_math_bits_deBruijn64tab), ("internal/strconv.uint64pow10", laid_internal_strconv_uint64pow10), ("prompter/kind.reserved", laid_prompter_kind_reserved), ("prompter/show.collators", laid_prompter_show_collators)] }
def ShowTypesSaid : Prop := showTypesRow.holds Tryd.pinned (OpenSpec.ofChange showTypesSpec)

/-- ITS FALSE NEIGHBOUR: 'it returns false'. Refute it at one input. -/
def showTypesWrong : ChangeSpec := { name := "showTypes", fn := fun _ => fun
  | [d] => { results := [.lit (.bool false)], args := [d] }
  | _ => none }
def ShowTypesWrongFalsely : Prop := showTypesRow.holds Tryd.pinned (OpenSpec.ofChange showTypesWrong)

/-- 'prompterlaw07.ShowBack': WHATEVER THE INPUT: true; the input reads as it did. -/
def showBackSpec : ChangeSpec := { name := "showBack", fn := fun _ => fun
  | [d] => { results := [.lit (.bool true)], args := [d] }
  | _ => none }
def showBackRow : OpenClaim := { program := "ytdggkhnelmonkaadoor", sum := "bdac0191530fe75cda2231857c97f01989c395cf6b631b5ae022d4fc836850b7", func := "prompter/prompterlaw07.ShowBack", spec := "showBack", inPlace := ["internal/abi.NoEscape", "internal/bytealg.MakeNoZero"], unfollowed := true, recurses := true, named := ["prompter/show.collators", "prompter/kind.reserved", "internal/strconv.uint64pow10", "math/bits.deBruijn32tab", "math/bits.deBruijn64tab"], loops := true, apart := false, laid := [("math/bits.deBruijn32tab", laid_math_bits_deBruijn32tab), ("math/bits.deBruijn64tab", laid_math_bits_deBruijn64tab), ("internal/strconv.uint64pow10", laid_internal_strconv_uint64pow10), ("prompter/kind.reserved", laid_prompter_kind_reserved), ("prompter/show.collators", laid_prompter_show_collators)] }
def ShowBackSaid : Prop := showBackRow.holds Tryd.pinned (OpenSpec.ofChange showBackSpec)

/-- ITS FALSE NEIGHBOUR: 'it returns false'. Refute it at one input. -/
def showBackWrong : ChangeSpec := { name := "showBack", fn := fun _ => fun
  | [d] => { results := [.lit (.bool false)], args := [d] }
  | _ => none }
def ShowBackWrongFalsely : Prop := showBackRow.holds Tryd.pinned (OpenSpec.ofChange showBackWrong)

/-- 'prompterlaw07.ShowAny': WHATEVER THE INPUT: true; the input reads as it did. -/
def showAnySpec : ChangeSpec := { name := "showAny", fn := fun _ => fun
  | [d1, d2, d3, d4] => { results := [.lit (.bool true)], args := [d1, d2, d3, d4] }
  | _ => none }
def showAnyRow : OpenClaim := { program := "ytdggkhnelmonkaadoor", sum := "bdac0191530fe75cda2231857c97f01989c395cf6b631b5ae022d4fc836850b7", func := "prompter/prompterlaw07.ShowAny", spec := "showAny", inPlace := ["internal/abi.NoEscape", "internal/bytealg.MakeNoZero"], unfollowed := true, recurses := true, named := ["prompter/show.collators", "prompter/kind.reserved", "internal/strconv.uint64pow10", "math/bits.deBruijn32tab", "math/bits.deBruijn64tab"], loops := true, apart := false, laid := [("math/bits.deBruijn32tab", laid_math_bits_deBruijn32tab), ("math/bits.deBruijn64tab", laid_math_bits_deBruijn64tab), ("internal/strconv.uint64pow10", laid_internal_strconv_uint64pow10), ("prompter/kind.reserved", laid_prompter_kind_reserved), ("prompter/show.collators", laid_prompter_show_collators)] }
def ShowAnySaid : Prop := showAnyRow.holds Tryd.pinned (OpenSpec.ofChange showAnySpec)

/-- ITS FALSE NEIGHBOUR: 'it returns false'. Refute it at one input. -/
def showAnyWrong : ChangeSpec := { name := "showAny", fn := fun _ => fun
  | [d1, d2, d3, d4] => { results := [.lit (.bool false)], args := [d1, d2, d3, d4] }
  | _ => none }
def ShowAnyWrongFalsely : Prop := showAnyRow.holds Tryd.pinned (OpenSpec.ofChange showAnyWrong)

/- THE SECOND FORM. 'bulk': how many values and letters a reading holds, each counted each time it is reached (what is shared counts as often as it is met; a slice's spare places count too). A statement '..UptoSaid' is the law's where the arguments, and the package variables that the reading takes, are together of bulk at most 1048576: NARROWER than '..Said'. Prove '..Said' where nothing that the law and all that it calls make is longer than what came in: it says more and counts as full. Else prove '..UptoSaid'. A law counts once. -/
mutual
def uptoBulk {H : Type} : DataW H → Nat
  | .lit (.string bytes) => bytes.length + 1
  | .lit _ => 1
  | .nil => 1
  | .ptr d => uptoBulk d + 1
  | .slice elems spare => uptoBulkAll elems + uptoBulkAll spare + 1
  | .agg parts => uptoBulkAll parts + 1
  | .iface _ d => uptoBulk d + 1
  | .map entries => uptoBulkEntries entries + 1
  | .held _ => 1
def uptoBulkAll {H : Type} : List (DataW H) → Nat
  | [] => 0
  | d :: r => uptoBulk d + uptoBulkAll r
def uptoBulkEntries {H : Type} : List (Lit × DataW H) → Nat
  | [] => 0
  | x :: r => uptoBulkEntry x + uptoBulkEntries r
def uptoBulkEntry {H : Type} : Lit × DataW H → Nat
  | (.string bytes, d) => bytes.length + uptoBulk d + 1
  | (_, d) => uptoBulk d + 1
 end
def uptoSmall : (H : Type) → List (DataW H) → Bool := fun _ ds => decide (uptoBulkAll ds ≤ 1048576)
def OpenSpec.upto (s : _root_.Go.ChangeSpec) : _root_.Go.OpenSpec := { _root_.Go.OpenSpec.ofChange s with cond := some uptoSmall }

/-- 'prompterlaw06.ParsePlaces', WHERE WHAT IT READS IS OF BULK AT MOST 1048576: true; the input reads as it did. -/
def parsePlacesUptoRow : OpenClaim := { program := "ytdggkhnelmonkaadoor", sum := "bdac0191530fe75cda2231857c97f01989c395cf6b631b5ae022d4fc836850b7", func := "prompter/prompterlaw06.ParsePlaces", spec := "parsePlaces", unfollowed := true, recurses := true, named := ["prompter/kind.reserved"], loops := true, apart := false, laid := [("prompter/kind.reserved", laid_prompter_kind_reserved)], narrowed := true }
def ParsePlacesUptoSaid : Prop := parsePlacesUptoRow.holds Tryd.pinned (OpenSpec.upto parsePlacesSpec)

/-- 'prompterlaw06.ParseDeep', WHERE WHAT IT READS IS OF BULK AT MOST 1048576: true; the input reads as it did. -/
def parseDeepUptoRow : OpenClaim := { program := "ytdggkhnelmonkaadoor", sum := "bdac0191530fe75cda2231857c97f01989c395cf6b631b5ae022d4fc836850b7", func := "prompter/prompterlaw06.ParseDeep", spec := "parseDeep", unfollowed := true, recurses := true, named := ["prompter/kind.reserved"], apart := false, laid := [("prompter/kind.reserved", laid_prompter_kind_reserved)], narrowed := true }
def ParseDeepUptoSaid : Prop := parseDeepUptoRow.holds Tryd.pinned (OpenSpec.upto parseDeepSpec)

/-- 'prompterlaw06.ParseReads', WHERE WHAT IT READS IS OF BULK AT MOST 1048576: true; the input reads as it did. -/
def parseReadsUptoRow : OpenClaim := { program := "ytdggkhnelmonkaadoor", sum := "bdac0191530fe75cda2231857c97f01989c395cf6b631b5ae022d4fc836850b7", func := "prompter/prompterlaw06.ParseReads", spec := "parseReads", unfollowed := true, recurses := true, named := ["prompter/kind.reserved"], loops := true, apart := false, laid := [("prompter/kind.reserved", laid_prompter_kind_reserved)], narrowed := true }
def ParseReadsUptoSaid : Prop := parseReadsUptoRow.holds Tryd.pinned (OpenSpec.upto parseReadsSpec)

/-- 'prompterlaw06.ParseAny', WHERE WHAT IT READS IS OF BULK AT MOST 1048576: true; the input reads as it did. -/
def parseAnyUptoRow : OpenClaim := { program := "ytdggkhnelmonkaadoor", sum := "bdac0191530fe75cda2231857c97f01989c395cf6b631b5ae022d4fc836850b7", func := "prompter/prompterlaw06.ParseAny", spec := "parseAny", unfollowed := true, recurses := true, named := ["prompter/kind.reserved"], loops := true, apart := false, laid := [("prompter/kind.reserved", laid_prompter_kind_reserved)], narrowed := true }
def ParseAnyUptoSaid : Prop := parseAnyUptoRow.holds Tryd.pinned (OpenSpec.upto parseAnySpec)

/-- 'prompterlaw06.ParseGaps', WHERE WHAT IT READS IS OF BULK AT MOST 1048576: true; the input reads as it did. -/
def parseGapsUptoRow : OpenClaim := { program := "ytdggkhnelmonkaadoor", sum := "bdac0191530fe75cda2231857c97f01989c395cf6b631b5ae022d4fc836850b7", func := "prompter/prompterlaw06.ParseGaps", spec := "parseGaps", unfollowed := true, recurses := true, named := ["prompter/kind.reserved"], loops := true, apart := false, laid := [("prompter/kind.reserved", laid_prompter_kind_reserved)], narrowed := true }
def ParseGapsUptoSaid : Prop := parseGapsUptoRow.holds Tryd.pinned (OpenSpec.upto parseGapsSpec)

/-- 'prompterlaw07.ShowPrints', WHERE WHAT IT READS IS OF BULK AT MOST 1048576: true; the input reads as it did. -/
def showPrintsUptoRow : OpenClaim := { program := "ytdggkhnelmonkaadoor", sum := "bdac0191530fe75cda2231857c97f01989c395cf6b631b5ae022d4fc836850b7", func := "prompter/prompterlaw07.ShowPrints", spec := "showPrints", inPlace := ["internal/abi.NoEscape", "internal/bytealg.MakeNoZero"], unfollowed := true, recurses := true, named := ["prompter/show.collators", "prompter/kind.reserved", "internal/strconv.uint64pow10", "math/bits.deBruijn32tab", "math/bits.deBruijn64tab"], loops := true, apart := false, laid := [("math/bits.deBruijn32tab", laid_math_bits_deBruijn32tab), ("math/bits.deBruijn64tab", laid_math_bits_deBruijn64tab), ("internal/strconv.uint64pow10", laid_internal_strconv_uint64pow10), ("prompter/kind.reserved", laid_prompter_kind_reserved), ("prompter/show.collators", laid_prompter_show_collators)], narrowed := true }
def ShowPrintsUptoSaid : Prop := showPrintsUptoRow.holds Tryd.pinned (OpenSpec.upto showPrintsSpec)

/-- 'prompterlaw07.ShowRaw', WHERE WHAT IT READS IS OF BULK AT MOST 1048576: true; the input reads as it did. -/
def showRawUptoRow : OpenClaim := { program := "ytdggkhnelmonkaadoor", sum := "bdac0191530fe75cda2231857c97f01989c395cf6b631b5ae022d4fc836850b7", func := "prompter/prompterlaw07.ShowRaw", spec := "showRaw", inPlace := ["internal/abi.NoEscape", "internal/bytealg.MakeNoZero"], unfollowed := true, recurses := true, named := ["prompter/show.collators", "prompter/kind.reserved", "internal/strconv.uint64pow10", "math/bits.deBruijn32tab", "math/bits.deBruijn64tab"], loops := true, apart := false, laid := [("math/bits.deBruijn32tab", laid_math_bits_deBruijn32tab), ("math/bits.deBruijn64tab", laid_math_bits_deBruijn64tab), ("internal/strconv.uint64pow10", laid_internal_strconv_uint64pow10), ("prompter/kind.reserved", laid_prompter_kind_reserved), ("prompter/show.collators", laid_prompter_show_collators)], narrowed := true }
def ShowRawUptoSaid : Prop := showRawUptoRow.holds Tryd.pinned (OpenSpec.upto showRawSpec)

/-- 'prompterlaw07.ShowTypes', WHERE WHAT IT READS IS OF BULK AT MOST 1048576: true; the input reads as it did. -/
def showTypesUptoRow : OpenClaim := { program := "ytdggkhnelmonkaadoor", sum := "bdac0191530fe75cda2231857c97f01989c395cf6b631b5ae022d4fc836850b7", func := "prompter/prompterlaw07.ShowTypes", spec := "showTypes", inPlace := ["internal/abi.NoEscape", "internal/bytealg.MakeNoZero"], unfollowed := true, recurses := true, named := ["prompter/show.collators", "prompter/kind.reserved", "internal/strconv.uint64pow10", "math/bits.deBruijn32tab", "math/bits.deBruijn64tab"], loops := true, apart := false, laid := [("math/bits.deBruijn32tab", laid_math_bits_deBruijn32tab), ("math/bits.deBruijn64tab", laid_math_bits_deBruijn64tab), ("internal/strconv.uint64pow10", laid_internal_strconv_uint64pow10), ("prompter/kind.reserved", laid_prompter_kind_reserved), ("prompter/show.collators", laid_prompter_show_collators)], narrowed := true }
def ShowTypesUptoSaid : Prop := showTypesUptoRow.holds Tryd.pinned (OpenSpec.upto showTypesSpec)

/-- 'prompterlaw07.ShowBack', WHERE WHAT IT READS IS OF BULK AT MOST 1048576: true; the input reads as it did. -/
def showBackUptoRow : OpenClaim := { program := "ytdggkhnelmonkaadoor", sum := "bdac0191530fe75cda2231857c97f01989c395cf6b631b5ae022d4fc836850b7", func := "prompter/prompterlaw07.ShowBack", spec := "showBack", inPlace := ["internal/abi.NoEscape", "internal/bytealg.MakeNoZero"], unfollowed := true, recurses := true, named := ["prompter/show.collators", "prompter/kind.reserved", "internal/strconv.uint64pow10", "math/bits.deBruijn32tab", "math/bits.deBruijn64tab"], loops := true, apart := false, laid := [("math/bits.deBruijn32tab", laid_math_bits_deBruijn32tab), ("math/bits.deBruijn64tab", laid_math_bits_deBruijn64tab), ("internal/strconv.uint64pow10", laid_internal_strconv_uint64pow10), ("prompter/kind.reserved", laid_prompter_kind_reserved), ("prompter/show.collators", laid_prompter_show_collators)], narrowed := true }
def ShowBackUptoSaid : Prop := showBackUptoRow.holds Tryd.pinned (OpenSpec.upto showBackSpec)

/-- 'prompterlaw07.ShowAny', WHERE WHAT IT READS IS OF BULK AT MOST 1048576: true; the input reads as it did. -/
def showAnyUptoRow : OpenClaim := { program := "ytdggkhnelmonkaadoor", sum := "bdac0191530fe75cda2231857c97f01989c395cf6b631b5ae022d4fc836850b7", func := "prompter/prompterlaw07.ShowAny", spec := "showAny", inPlace := ["internal/abi.NoEscape", "internal/bytealg.MakeNoZero"], unfollowed := true, recurses := true, named := ["prompter/show.collators", "prompter/kind.reserved", "internal/strconv.uint64pow10", "math/bits.deBruijn32tab", "math/bits.deBruijn64tab"], loops := true, apart := false, laid := [("math/bits.deBruijn32tab", laid_math_bits_deBruijn32tab), ("math/bits.deBruijn64tab", laid_math_bits_deBruijn64tab), ("internal/strconv.uint64pow10", laid_internal_strconv_uint64pow10), ("prompter/kind.reserved", laid_prompter_kind_reserved), ("prompter/show.collators", laid_prompter_show_collators)], narrowed := true }
def ShowAnyUptoSaid : Prop := showAnyUptoRow.holds Tryd.pinned (OpenSpec.upto showAnySpec)

end Rows
end Go.Proofs.YtdggkhnelmonkaaDoor
