/-
  NARROWER THAN 'FOR EVERY INPUT', by the rows' own cells (each row's printed sentence says how): TraceEvery: laid · TraceExplained: laid · TraceVolumes: laid · TraceCauses: laid · TraceNext: laid · TraceEvidence: laid · TraceCourses: laid · TraceMaps: laid · TraceRolls: laid · TraceValues: laid · TraceBack: laid.
  DERIVED. THE GIVEN ROWS OF THIS SEAT. 11 by the template 'for every input the law returns true; each argument reads behind the call as it read before'; 0 by the template 'total and deterministic' (their statements: YtfihcmhknhbndaaGreatDoorTotals.lean).
  GIVEN WITH THE SEED: the statements are not yours to turn. If you find one false, say at which input.
  Laid BY PROGRAM, IN A SANDBOX (cutbox-rows.mjs): the forced cells as the released guide's own fill.sh prints them over the translation c961a55402fe9b49… (all of the seat's roots in one cut). By AI agents, Wed Nov 11 2026. No macro, syntax, notation, axiom, sorry.
-/
import Derived.Test.YtfihcmhknhbndaaGreatDoorChecked
import GoSem.Claim
import GoSem.ClaimJoined
import GoSem.ClaimMapViews
import Derived.JoinedTies
import Derived.KernelRfl
namespace Go.Proofs.YtfihcmhknhbndaaGreatDoor
/- THE CELL 'sum', in the pinned program and in every row, IS THE sha256 OF THE DUMP (.gsa) THAT YtfihcmhknhbndaaGreatDoorProg.lean LOADS. Nothing in Lean hashes anything: it is a label: what it is worth is what the hold of that sum in a sandbox is worth. -/
noncomputable def Tryz.pinned : Pinned := { name := "ytfihcmhknhbndaagreatdoor", sum := "c961a55402fe9b49f1be32e44790bdb9b34591a938735f112d519a1ad3238669", checked := Tryz.checked }
namespace Rows
def none {H : Type} : Left H := { results := [], args := [] }

/- WHAT THE LISTED PACKAGE-LEVEL VARIABLES READ AS WHEN THE CALL BEGINS. Each datum BY PROGRAM (the guide's laid-datum.mjs) off the statement by which the dump's own 'gosem.cut.vars' lays the variable. In a bare row this is a premise. The card (YtfihcmhknhbndaaGreatDoorCards.lean) ties it to the program's text. -/
def laid_math_bits_deBruijn32tab {H : Type} : DataW H := .agg [.lit (.int .u8 0), .lit (.int .u8 1), .lit (.int .u8 28), .lit (.int .u8 2), .lit (.int .u8 29), .lit (.int .u8 14), .lit (.int .u8 24), .lit (.int .u8 3), .lit (.int .u8 30), .lit (.int .u8 22), .lit (.int .u8 20), .lit (.int .u8 15), .lit (.int .u8 25), .lit (.int .u8 17), .lit (.int .u8 4), .lit (.int .u8 8), .lit (.int .u8 31), .lit (.int .u8 27), .lit (.int .u8 13), .lit (.int .u8 23), .lit (.int .u8 21), .lit (.int .u8 19), .lit (.int .u8 16), .lit (.int .u8 7), .lit (.int .u8 26), .lit (.int .u8 12), .lit (.int .u8 18), .lit (.int .u8 6), .lit (.int .u8 11), .lit (.int .u8 5), .lit (.int .u8 10), .lit (.int .u8 9)]
def laid_math_bits_deBruijn64tab {H : Type} : DataW H := .agg [.lit (.int .u8 0), .lit (.int .u8 1), .lit (.int .u8 56), .lit (.int .u8 2), .lit (.int .u8 57), .lit (.int .u8 49), .lit (.int .u8 28), .lit (.int .u8 3), .lit (.int .u8 61), .lit (.int .u8 58), .lit (.int .u8 42), .lit (.int .u8 50), .lit (.int .u8 38), .lit (.int .u8 29), .lit (.int .u8 17), .lit (.int .u8 4), .lit (.int .u8 62), .lit (.int .u8 47), .lit (.int .u8 59), .lit (.int .u8 36), .lit (.int .u8 45), .lit (.int .u8 43), .lit (.int .u8 51), .lit (.int .u8 22), .lit (.int .u8 53), .lit (.int .u8 39), .lit (.int .u8 33), .lit (.int .u8 30), .lit (.int .u8 24), .lit (.int .u8 18), .lit (.int .u8 12), .lit (.int .u8 5), .lit (.int .u8 63), .lit (.int .u8 55), .lit (.int .u8 48), .lit (.int .u8 27), .lit (.int .u8 60), .lit (.int .u8 41), .lit (.int .u8 37), .lit (.int .u8 16), .lit (.int .u8 46), .lit (.int .u8 35), .lit (.int .u8 44), .lit (.int .u8 21), .lit (.int .u8 52), .lit (.int .u8 32), .lit (.int .u8 23), .lit (.int .u8 11), .lit (.int .u8 54), .lit (.int .u8 26), .lit (.int .u8 40), .lit (.int .u8 15), .lit (.int .u8 34), .lit (.int .u8 20), .lit (.int .u8 31), .lit (.int .u8 10), .lit (.int .u8 25), .lit (.int .u8 14), .lit (.int .u8 19), .lit (.int .u8 9), .lit (.int .u8 13), .lit (.int .u8 8), .lit (.int .u8 7), .lit (.int .u8 6)]
def laid_internal_strconv_uint64pow10 {H : Type} : DataW H := .agg [.lit (.int .u64 1), .lit (.int .u64 10), .lit (.int .u64 100), .lit (.int .u64 1000), .lit (.int .u64 10000), .lit (.int .u64 100000), .lit (.int .u64 1000000), .lit (.int .u64 10000000), .lit (.int .u64 100000000), .lit (.int .u64 1000000000), .lit (.int .u64 10000000000), .lit (.int .u64 100000000000), .lit (.int .u64 1000000000000), .lit (.int .u64 10000000000000), .lit (.int .u64 100000000000000), .lit (.int .u64 1000000000000000), .lit (.int .u64 10000000000000000), .lit (.int .u64 100000000000000000), .lit (.int .u64 1000000000000000000), .lit (.int .u64 10000000000000000000)]

/-- 'cobblelaw09.TraceEvery': WHATEVER THE INPUT: true; the input reads as it did. -/
def traceEverySpec : ChangeSpec := { name := "traceEvery", fn := fun _ => fun
  | [d1, d2, d3] => { results := [.lit (.bool true)], args := [d1, d2, d3] }
  | _ => none }
def traceEveryRow : OpenClaim := { program := "ytfihcmhknhbndaagreatdoor", sum := "c961a55402fe9b49f1be32e44790bdb9b34591a938735f112d519a1ad3238669", func := "cobble/cobblelaw09.TraceEvery", spec := "traceEvery", inPlace := ["internal/abi.NoEscape", "internal/bytealg.MakeNoZero"], unfollowed := true, recurses := true, named := ["internal/strconv.uint64pow10", "math/bits.deBruijn32tab", "math/bits.deBruijn64tab"], apart := false, laid := [("math/bits.deBruijn32tab", laid_math_bits_deBruijn32tab), ("math/bits.deBruijn64tab", laid_math_bits_deBruijn64tab), ("internal/strconv.uint64pow10", laid_internal_strconv_uint64pow10)] }
def TraceEverySaid : Prop := traceEveryRow.holds Tryz.pinned (OpenSpec.ofChange traceEverySpec)

/-- ITS FALSE NEIGHBOUR: 'it returns false'. Refute it at one input. -/
def traceEveryWrong : ChangeSpec := { name := "traceEvery", fn := fun _ => fun
  | [d1, d2, d3] => { results := [.lit (.bool false)], args := [d1, d2, d3] }
  | _ => none }
def TraceEveryWrongFalsely : Prop := traceEveryRow.holds Tryz.pinned (OpenSpec.ofChange traceEveryWrong)

/-- 'cobblelaw09.TraceExplained': WHATEVER THE INPUT: true; the input reads as it did. -/
def traceExplainedSpec : ChangeSpec := { name := "traceExplained", fn := fun _ => fun
  | [d1, d2, d3] => { results := [.lit (.bool true)], args := [d1, d2, d3] }
  | _ => none }
def traceExplainedRow : OpenClaim := { program := "ytfihcmhknhbndaagreatdoor", sum := "c961a55402fe9b49f1be32e44790bdb9b34591a938735f112d519a1ad3238669", func := "cobble/cobblelaw09.TraceExplained", spec := "traceExplained", inPlace := ["internal/abi.NoEscape", "internal/bytealg.MakeNoZero"], unfollowed := true, recurses := true, named := ["internal/strconv.uint64pow10", "math/bits.deBruijn32tab", "math/bits.deBruijn64tab"], apart := false, laid := [("math/bits.deBruijn32tab", laid_math_bits_deBruijn32tab), ("math/bits.deBruijn64tab", laid_math_bits_deBruijn64tab), ("internal/strconv.uint64pow10", laid_internal_strconv_uint64pow10)] }
def TraceExplainedSaid : Prop := traceExplainedRow.holds Tryz.pinned (OpenSpec.ofChange traceExplainedSpec)

/-- ITS FALSE NEIGHBOUR: 'it returns false'. Refute it at one input. -/
def traceExplainedWrong : ChangeSpec := { name := "traceExplained", fn := fun _ => fun
  | [d1, d2, d3] => { results := [.lit (.bool false)], args := [d1, d2, d3] }
  | _ => none }
def TraceExplainedWrongFalsely : Prop := traceExplainedRow.holds Tryz.pinned (OpenSpec.ofChange traceExplainedWrong)

/-- 'cobblelaw09.TraceVolumes': WHATEVER THE INPUT: true; the input reads as it did. -/
def traceVolumesSpec : ChangeSpec := { name := "traceVolumes", fn := fun _ => fun
  | [d] => { results := [.lit (.bool true)], args := [d] }
  | _ => none }
def traceVolumesRow : OpenClaim := { program := "ytfihcmhknhbndaagreatdoor", sum := "c961a55402fe9b49f1be32e44790bdb9b34591a938735f112d519a1ad3238669", func := "cobble/cobblelaw09.TraceVolumes", spec := "traceVolumes", inPlace := ["internal/abi.NoEscape", "internal/bytealg.MakeNoZero"], unfollowed := true, recurses := true, named := ["internal/strconv.uint64pow10", "math/bits.deBruijn32tab", "math/bits.deBruijn64tab"], apart := false, laid := [("math/bits.deBruijn32tab", laid_math_bits_deBruijn32tab), ("math/bits.deBruijn64tab", laid_math_bits_deBruijn64tab), ("internal/strconv.uint64pow10", laid_internal_strconv_uint64pow10)] }
def TraceVolumesSaid : Prop := traceVolumesRow.holds Tryz.pinned (OpenSpec.ofChange traceVolumesSpec)

/-- ITS FALSE NEIGHBOUR: 'it returns false'. Refute it at one input. -/
def traceVolumesWrong : ChangeSpec := { name := "traceVolumes", fn := fun _ => fun
  | [d] => { results := [.lit (.bool false)], args := [d] }
  | _ => none }
def TraceVolumesWrongFalsely : Prop := traceVolumesRow.holds Tryz.pinned (OpenSpec.ofChange traceVolumesWrong)

/-- 'cobblelaw09.TraceCauses': WHATEVER THE INPUT: true; the input reads as it did. -/
def traceCausesSpec : ChangeSpec := { name := "traceCauses", fn := fun _ => fun
  | [d1, d2, d3] => { results := [.lit (.bool true)], args := [d1, d2, d3] }
  | _ => none }
def traceCausesRow : OpenClaim := { program := "ytfihcmhknhbndaagreatdoor", sum := "c961a55402fe9b49f1be32e44790bdb9b34591a938735f112d519a1ad3238669", func := "cobble/cobblelaw09.TraceCauses", spec := "traceCauses", inPlace := ["internal/abi.NoEscape", "internal/bytealg.MakeNoZero"], unfollowed := true, recurses := true, named := ["internal/strconv.uint64pow10", "math/bits.deBruijn32tab", "math/bits.deBruijn64tab"], apart := false, laid := [("math/bits.deBruijn32tab", laid_math_bits_deBruijn32tab), ("math/bits.deBruijn64tab", laid_math_bits_deBruijn64tab), ("internal/strconv.uint64pow10", laid_internal_strconv_uint64pow10)] }
def TraceCausesSaid : Prop := traceCausesRow.holds Tryz.pinned (OpenSpec.ofChange traceCausesSpec)

/-- ITS FALSE NEIGHBOUR: 'it returns false'. Refute it at one input. -/
def traceCausesWrong : ChangeSpec := { name := "traceCauses", fn := fun _ => fun
  | [d1, d2, d3] => { results := [.lit (.bool false)], args := [d1, d2, d3] }
  | _ => none }
def TraceCausesWrongFalsely : Prop := traceCausesRow.holds Tryz.pinned (OpenSpec.ofChange traceCausesWrong)

/-- 'cobblelaw09.TraceNext': WHATEVER THE INPUT: true; the input reads as it did. -/
def traceNextSpec : ChangeSpec := { name := "traceNext", fn := fun _ => fun
  | [d1, d2, d3] => { results := [.lit (.bool true)], args := [d1, d2, d3] }
  | _ => none }
def traceNextRow : OpenClaim := { program := "ytfihcmhknhbndaagreatdoor", sum := "c961a55402fe9b49f1be32e44790bdb9b34591a938735f112d519a1ad3238669", func := "cobble/cobblelaw09.TraceNext", spec := "traceNext", inPlace := ["internal/abi.NoEscape", "internal/bytealg.MakeNoZero"], unfollowed := true, recurses := true, named := ["internal/strconv.uint64pow10", "math/bits.deBruijn32tab", "math/bits.deBruijn64tab"], apart := false, laid := [("math/bits.deBruijn32tab", laid_math_bits_deBruijn32tab), ("math/bits.deBruijn64tab", laid_math_bits_deBruijn64tab), ("internal/strconv.uint64pow10", laid_internal_strconv_uint64pow10)] }
def TraceNextSaid : Prop := traceNextRow.holds Tryz.pinned (OpenSpec.ofChange traceNextSpec)

/-- ITS FALSE NEIGHBOUR: 'it returns false'. Refute it at one input. -/
def traceNextWrong : ChangeSpec := { name := "traceNext", fn := fun _ => fun
  | [d1, d2, d3] => { results := [.lit (.bool false)], args := [d1, d2, d3] }
  | _ => none }
def TraceNextWrongFalsely : Prop := traceNextRow.holds Tryz.pinned (OpenSpec.ofChange traceNextWrong)

/-- 'cobblelaw09.TraceEvidence': WHATEVER THE INPUT: true; the input reads as it did. -/
def traceEvidenceSpec : ChangeSpec := { name := "traceEvidence", fn := fun _ => fun
  | [d1, d2, d3] => { results := [.lit (.bool true)], args := [d1, d2, d3] }
  | _ => none }
def traceEvidenceRow : OpenClaim := { program := "ytfihcmhknhbndaagreatdoor", sum := "c961a55402fe9b49f1be32e44790bdb9b34591a938735f112d519a1ad3238669", func := "cobble/cobblelaw09.TraceEvidence", spec := "traceEvidence", inPlace := ["internal/abi.NoEscape", "internal/bytealg.MakeNoZero"], unfollowed := true, recurses := true, named := ["internal/strconv.uint64pow10", "math/bits.deBruijn32tab", "math/bits.deBruijn64tab"], apart := false, laid := [("math/bits.deBruijn32tab", laid_math_bits_deBruijn32tab), ("math/bits.deBruijn64tab", laid_math_bits_deBruijn64tab), ("internal/strconv.uint64pow10", laid_internal_strconv_uint64pow10)] }
def TraceEvidenceSaid : Prop := traceEvidenceRow.holds Tryz.pinned (OpenSpec.ofChange traceEvidenceSpec)

/-- ITS FALSE NEIGHBOUR: 'it returns false'. Refute it at one input. -/
def traceEvidenceWrong : ChangeSpec := { name := "traceEvidence", fn := fun _ => fun
  | [d1, d2, d3] => { results := [.lit (.bool false)], args := [d1, d2, d3] }
  | _ => none }
def TraceEvidenceWrongFalsely : Prop := traceEvidenceRow.holds Tryz.pinned (OpenSpec.ofChange traceEvidenceWrong)

/-- 'cobblelaw09.TraceCourses': WHATEVER THE INPUT: true; the input reads as it did. -/
def traceCoursesSpec : ChangeSpec := { name := "traceCourses", fn := fun _ => fun
  | [d1, d2] => { results := [.lit (.bool true)], args := [d1, d2] }
  | _ => none }
def traceCoursesRow : OpenClaim := { program := "ytfihcmhknhbndaagreatdoor", sum := "c961a55402fe9b49f1be32e44790bdb9b34591a938735f112d519a1ad3238669", func := "cobble/cobblelaw09.TraceCourses", spec := "traceCourses", inPlace := ["internal/abi.NoEscape", "internal/bytealg.MakeNoZero"], unfollowed := true, recurses := true, named := ["internal/strconv.uint64pow10", "math/bits.deBruijn32tab", "math/bits.deBruijn64tab"], apart := false, laid := [("math/bits.deBruijn32tab", laid_math_bits_deBruijn32tab), ("math/bits.deBruijn64tab", laid_math_bits_deBruijn64tab), ("internal/strconv.uint64pow10", laid_internal_strconv_uint64pow10)] }
def TraceCoursesSaid : Prop := traceCoursesRow.holds Tryz.pinned (OpenSpec.ofChange traceCoursesSpec)

/-- ITS FALSE NEIGHBOUR: 'it returns false'. Refute it at one input. -/
def traceCoursesWrong : ChangeSpec := { name := "traceCourses", fn := fun _ => fun
  | [d1, d2] => { results := [.lit (.bool false)], args := [d1, d2] }
  | _ => none }
def TraceCoursesWrongFalsely : Prop := traceCoursesRow.holds Tryz.pinned (OpenSpec.ofChange traceCoursesWrong)

/-- 'cobblelaw09.TraceMaps': WHATEVER THE INPUT: true; the input reads as it did. -/
def traceMapsSpec : ChangeSpec := { name := "traceMaps", fn := fun _ => fun
  | [d1, d2, d3] => { results := [.lit (.bool true)], args := [d1, d2, d3] }
  | _ => none }
def traceMapsRow : OpenClaim := { program := "ytfihcmhknhbndaagreatdoor", sum := "c961a55402fe9b49f1be32e44790bdb9b34591a938735f112d519a1ad3238669", func := "cobble/cobblelaw09.TraceMaps", spec := "traceMaps", inPlace := ["internal/abi.NoEscape", "internal/bytealg.MakeNoZero"], unfollowed := true, recurses := true, named := ["internal/strconv.uint64pow10", "math/bits.deBruijn32tab", "math/bits.deBruijn64tab"], apart := false, laid := [("math/bits.deBruijn32tab", laid_math_bits_deBruijn32tab), ("math/bits.deBruijn64tab", laid_math_bits_deBruijn64tab), ("internal/strconv.uint64pow10", laid_internal_strconv_uint64pow10)] }
def TraceMapsSaid : Prop := traceMapsRow.holds Tryz.pinned (OpenSpec.ofChange traceMapsSpec)

/-- ITS FALSE NEIGHBOUR: 'it returns false'. Refute it at one input. -/
def traceMapsWrong : ChangeSpec := { name := "traceMaps", fn := fun _ => fun
  | [d1, d2, d3] => { results := [.lit (.bool false)], args := [d1, d2, d3] }
  | _ => none }
def TraceMapsWrongFalsely : Prop := traceMapsRow.holds Tryz.pinned (OpenSpec.ofChange traceMapsWrong)

/-- 'cobblelaw09.TraceRolls': WHATEVER THE INPUT: true; the input reads as it did. -/
def traceRollsSpec : ChangeSpec := { name := "traceRolls", fn := fun _ => fun
  | [d1, d2, d3] => { results := [.lit (.bool true)], args := [d1, d2, d3] }
  | _ => none }
def traceRollsRow : OpenClaim := { program := "ytfihcmhknhbndaagreatdoor", sum := "c961a55402fe9b49f1be32e44790bdb9b34591a938735f112d519a1ad3238669", func := "cobble/cobblelaw09.TraceRolls", spec := "traceRolls", inPlace := ["internal/abi.NoEscape", "internal/bytealg.MakeNoZero"], unfollowed := true, recurses := true, named := ["internal/strconv.uint64pow10", "math/bits.deBruijn32tab", "math/bits.deBruijn64tab"], apart := false, laid := [("math/bits.deBruijn32tab", laid_math_bits_deBruijn32tab), ("math/bits.deBruijn64tab", laid_math_bits_deBruijn64tab), ("internal/strconv.uint64pow10", laid_internal_strconv_uint64pow10)] }
def TraceRollsSaid : Prop := traceRollsRow.holds Tryz.pinned (OpenSpec.ofChange traceRollsSpec)

/-- ITS FALSE NEIGHBOUR: 'it returns false'. Refute it at one input. -/
def traceRollsWrong : ChangeSpec := { name := "traceRolls", fn := fun _ => fun
  | [d1, d2, d3] => { results := [.lit (.bool false)], args := [d1, d2, d3] }
  | _ => none }
def TraceRollsWrongFalsely : Prop := traceRollsRow.holds Tryz.pinned (OpenSpec.ofChange traceRollsWrong)

/-- 'cobblelaw09.TraceValues': WHATEVER THE INPUT: true; the input reads as it did. -/
def traceValuesSpec : ChangeSpec := { name := "traceValues", fn := fun _ => fun
  | [d1, d2, d3] => { results := [.lit (.bool true)], args := [d1, d2, d3] }
  | _ => none }
def traceValuesRow : OpenClaim := { program := "ytfihcmhknhbndaagreatdoor", sum := "c961a55402fe9b49f1be32e44790bdb9b34591a938735f112d519a1ad3238669", func := "cobble/cobblelaw09.TraceValues", spec := "traceValues", inPlace := ["internal/abi.NoEscape", "internal/bytealg.MakeNoZero"], unfollowed := true, recurses := true, named := ["internal/strconv.uint64pow10", "math/bits.deBruijn32tab", "math/bits.deBruijn64tab"], apart := false, laid := [("math/bits.deBruijn32tab", laid_math_bits_deBruijn32tab), ("math/bits.deBruijn64tab", laid_math_bits_deBruijn64tab), ("internal/strconv.uint64pow10", laid_internal_strconv_uint64pow10)] }
def TraceValuesSaid : Prop := traceValuesRow.holds Tryz.pinned (OpenSpec.ofChange traceValuesSpec)

/-- ITS FALSE NEIGHBOUR: 'it returns false'. Refute it at one input. -/
def traceValuesWrong : ChangeSpec := { name := "traceValues", fn := fun _ => fun
  | [d1, d2, d3] => { results := [.lit (.bool false)], args := [d1, d2, d3] }
  | _ => none }
def TraceValuesWrongFalsely : Prop := traceValuesRow.holds Tryz.pinned (OpenSpec.ofChange traceValuesWrong)

/-- 'cobblelaw09.TraceBack': WHATEVER THE INPUT: true; the input reads as it did. -/
def traceBackSpec : ChangeSpec := { name := "traceBack", fn := fun _ => fun
  | [d1, d2, d3] => { results := [.lit (.bool true)], args := [d1, d2, d3] }
  | _ => none }
def traceBackRow : OpenClaim := { program := "ytfihcmhknhbndaagreatdoor", sum := "c961a55402fe9b49f1be32e44790bdb9b34591a938735f112d519a1ad3238669", func := "cobble/cobblelaw09.TraceBack", spec := "traceBack", inPlace := ["internal/abi.NoEscape", "internal/bytealg.MakeNoZero"], unfollowed := true, recurses := true, named := ["internal/strconv.uint64pow10", "math/bits.deBruijn32tab", "math/bits.deBruijn64tab"], apart := false, laid := [("math/bits.deBruijn32tab", laid_math_bits_deBruijn32tab), ("math/bits.deBruijn64tab", laid_math_bits_deBruijn64tab), ("internal/strconv.uint64pow10", laid_internal_strconv_uint64pow10)] }
def TraceBackSaid : Prop := traceBackRow.holds Tryz.pinned (OpenSpec.ofChange traceBackSpec)

/-- ITS FALSE NEIGHBOUR: 'it returns false'. Refute it at one input. -/
def traceBackWrong : ChangeSpec := { name := "traceBack", fn := fun _ => fun
  | [d1, d2, d3] => { results := [.lit (.bool false)], args := [d1, d2, d3] }
  | _ => none }
def TraceBackWrongFalsely : Prop := traceBackRow.holds Tryz.pinned (OpenSpec.ofChange traceBackWrong)

/- THE SECOND FORM. 'bulk': how many values and letters a reading holds, each counted each time it is reached (what is shared counts as often as it is met; a slice's spare places count too). A statement '..UptoSaid' is the law's where the arguments, and the package variables that the reading takes, are together of bulk at most 1048576: NARROWER than '..Said'. Prove '..Said' where nothing that the law and all that it calls make is longer than what came in: it says more and counts as full. Else prove '..UptoSaid'. A law counts once. -/
mutual
def uptoBulk {H : Type} : DataW H → Nat
  | .lit (.string bytes) => bytes.length + 1
  | .lit _ => 1
  | .nil => 1
  | .ptr d => uptoBulk d + 1
  | .slice elems spare => uptoBulkAll elems + uptoBulkAll spare + 1
  | .agg parts => uptoBulkAll parts + 1
  | .iface _ d => uptoBulk d + 1
  | .map entries => uptoBulkEntries entries + 1
  | .held _ => 1
def uptoBulkAll {H : Type} : List (DataW H) → Nat
  | [] => 0
  | d :: r => uptoBulk d + uptoBulkAll r
def uptoBulkEntries {H : Type} : List (Lit × DataW H) → Nat
  | [] => 0
  | x :: r => uptoBulkEntry x + uptoBulkEntries r
def uptoBulkEntry {H : Type} : Lit × DataW H → Nat
  | (.string bytes, d) => bytes.length + uptoBulk d + 1
  | (_, d) => uptoBulk d + 1
 end
def uptoSmall : (H : Type) → List (DataW H) → Bool := fun _ ds => decide (uptoBulkAll ds ≤ 1048576)
def OpenSpec.upto (s : _root_.Go.ChangeSpec) : _root_.Go.OpenSpec := { _root_.Go.OpenSpec.ofChange s with cond := some uptoSmall }

/-- 'cobblelaw09.TraceEvery', WHERE WHAT IT READS IS OF BULK AT MOST 1048576: true; the input reads as it did. -/
def traceEveryUptoRow : OpenClaim := { program := "ytfihcmhknhbndaagreatdoor", sum := "c961a55402fe9b49f1be32e44790bdb9b34591a938735f112d519a1ad3238669", func := "cobble/cobblelaw09.TraceEvery", spec := "traceEvery", inPlace := ["internal/abi.NoEscape", "internal/bytealg.MakeNoZero"], unfollowed := true, recurses := true, named := ["internal/strconv.uint64pow10", "math/bits.deBruijn32tab", "math/bits.deBruijn64tab"], apart := false, laid := [("math/bits.deBruijn32tab", laid_math_bits_deBruijn32tab), ("math/bits.deBruijn64tab", laid_math_bits_deBruijn64tab), ("internal/strconv.uint64pow10", laid_internal_strconv_uint64pow10)], narrowed := true }
def TraceEveryUptoSaid : Prop := traceEveryUptoRow.holds Tryz.pinned (OpenSpec.upto traceEverySpec)

/-- 'cobblelaw09.TraceExplained', WHERE WHAT IT READS IS OF BULK AT MOST 1048576: true; the input reads as it did. -/
def traceExplainedUptoRow : OpenClaim := { program := "ytfihcmhknhbndaagreatdoor", sum := "c961a55402fe9b49f1be32e44790bdb9b34591a938735f112d519a1ad3238669", func := "cobble/cobblelaw09.TraceExplained", spec := "traceExplained", inPlace := ["internal/abi.NoEscape", "internal/bytealg.MakeNoZero"], unfollowed := true, recurses := true, named := ["internal/strconv.uint64pow10", "math/bits.deBruijn32tab", "math/bits.deBruijn64tab"], apart := false, laid := [("math/bits.deBruijn32tab", laid_math_bits_deBruijn32tab), ("math/bits.deBruijn64tab", laid_math_bits_deBruijn64tab), ("internal/strconv.uint64pow10", laid_internal_strconv_uint64pow10)], narrowed := true }
def TraceExplainedUptoSaid : Prop := traceExplainedUptoRow.holds Tryz.pinned (OpenSpec.upto traceExplainedSpec)

/-- 'cobblelaw09.TraceVolumes', WHERE WHAT IT READS IS OF BULK AT MOST 1048576: true; the input reads as it did. -/
def traceVolumesUptoRow : OpenClaim := { program := "ytfihcmhknhbndaagreatdoor", sum := "c961a55402fe9b49f1be32e44790bdb9b34591a938735f112d519a1ad3238669", func := "cobble/cobblelaw09.TraceVolumes", spec := "traceVolumes", inPlace := ["internal/abi.NoEscape", "internal/bytealg.MakeNoZero"], unfollowed := true, recurses := true, named := ["internal/strconv.uint64pow10", "math/bits.deBruijn32tab", "math/bits.deBruijn64tab"], apart := false, laid := [("math/bits.deBruijn32tab", laid_math_bits_deBruijn32tab), ("math/bits.deBruijn64tab", laid_math_bits_deBruijn64tab), ("internal/strconv.uint64pow10", laid_internal_strconv_uint64pow10)], narrowed := true }
def TraceVolumesUptoSaid : Prop := traceVolumesUptoRow.holds Tryz.pinned (OpenSpec.upto traceVolumesSpec)

/-- 'cobblelaw09.TraceCauses', WHERE WHAT IT READS IS OF BULK AT MOST 1048576: true; the input reads as it did. -/
def traceCausesUptoRow : OpenClaim := { program := "ytfihcmhknhbndaagreatdoor", sum := "c961a55402fe9b49f1be32e44790bdb9b34591a938735f112d519a1ad3238669", func := "cobble/cobblelaw09.TraceCauses", spec := "traceCauses", inPlace := ["internal/abi.NoEscape", "internal/bytealg.MakeNoZero"], unfollowed := true, recurses := true, named := ["internal/strconv.uint64pow10", "math/bits.deBruijn32tab", "math/bits.deBruijn64tab"], apart := false, laid := [("math/bits.deBruijn32tab", laid_math_bits_deBruijn32tab), ("math/bits.deBruijn64tab", laid_math_bits_deBruijn64tab), ("internal/strconv.uint64pow10", laid_internal_strconv_uint64pow10)], narrowed := true }
def TraceCausesUptoSaid : Prop := traceCausesUptoRow.holds Tryz.pinned (OpenSpec.upto traceCausesSpec)

/-- 'cobblelaw09.TraceNext', WHERE WHAT IT READS IS OF BULK AT MOST 1048576: true; the input reads as it did. -/
def traceNextUptoRow : OpenClaim := { program := "ytfihcmhknhbndaagreatdoor", sum := "c961a55402fe9b49f1be32e44790bdb9b34591a938735f112d519a1ad3238669", func := "cobble/cobblelaw09.TraceNext", spec := "traceNext", inPlace := ["internal/abi.NoEscape", "internal/bytealg.MakeNoZero"], unfollowed := true, recurses := true, named := ["internal/strconv.uint64pow10", "math/bits.deBruijn32tab", "math/bits.deBruijn64tab"], apart := false, laid := [("math/bits.deBruijn32tab", laid_math_bits_deBruijn32tab), ("math/bits.deBruijn64tab", laid_math_bits_deBruijn64tab), ("internal/strconv.uint64pow10", laid_internal_strconv_uint64pow10)], narrowed := true }
def TraceNextUptoSaid : Prop := traceNextUptoRow.holds Tryz.pinned (OpenSpec.upto traceNextSpec)

/-- 'cobblelaw09.TraceEvidence', WHERE WHAT IT READS IS OF BULK AT MOST 1048576: true; the input reads as it did. -/
def traceEvidenceUptoRow : OpenClaim := { program := "ytfihcmhknhbndaagreatdoor", sum := "c961a55402fe9b49f1be32e44790bdb9b34591a938735f112d519a1ad3238669", func := "cobble/cobblelaw09.TraceEvidence", spec := "traceEvidence", inPlace := ["internal/abi.NoEscape", "internal/bytealg.MakeNoZero"], unfollowed := true, recurses := true, named := ["internal/strconv.uint64pow10", "math/bits.deBruijn32tab", "math/bits.deBruijn64tab"], apart := false, laid := [("math/bits.deBruijn32tab", laid_math_bits_deBruijn32tab), ("math/bits.deBruijn64tab", laid_math_bits_deBruijn64tab), ("internal/strconv.uint64pow10", laid_internal_strconv_uint64pow10)], narrowed := true }
def TraceEvidenceUptoSaid : Prop := traceEvidenceUptoRow.holds Tryz.pinned (OpenSpec.upto traceEvidenceSpec)

/-- 'cobblelaw09.TraceCourses', WHERE WHAT IT READS IS OF BULK AT MOST 1048576: true; the input reads as it did. -/
def traceCoursesUptoRow : OpenClaim := { program := "ytfihcmhknhbndaagreatdoor", sum := "c961a55402fe9b49f1be32e44790bdb9b34591a938735f112d519a1ad3238669", func := "cobble/cobblelaw09.TraceCourses", spec := "traceCourses", inPlace := ["internal/abi.NoEscape", "internal/bytealg.MakeNoZero"], unfollowed := true, recurses := true, named := ["internal/strconv.uint64pow10", "math/bits.deBruijn32tab", "math/bits.deBruijn64tab"], apart := false, laid := [("math/bits.deBruijn32tab", laid_math_bits_deBruijn32tab), ("math/bits.deBruijn64tab", laid_math_bits_deBruijn64tab), ("internal/strconv.uint64pow10", laid_internal_strconv_uint64pow10)], narrowed := true }
def TraceCoursesUptoSaid : Prop := traceCoursesUptoRow.holds Tryz.pinned (OpenSpec.upto traceCoursesSpec)

/-- 'cobblelaw09.TraceMaps', WHERE WHAT IT READS IS OF BULK AT MOST 1048576: true; the input reads as it did. -/
def traceMapsUptoRow : OpenClaim := { program := "ytfihcmhknhbndaagreatdoor", sum := "c961a55402fe9b49f1be32e44790bdb9b34591a938735f112d519a1ad3238669", func := "cobble/cobblelaw09.TraceMaps", spec := "traceMaps", inPlace := ["internal/abi.NoEscape", "internal/bytealg.MakeNoZero"], unfollowed := true, recurses := true, named := ["internal/strconv.uint64pow10", "math/bits.deBruijn32tab", "math/bits.deBruijn64tab"], apart := false, laid := [("math/bits.deBruijn32tab", laid_math_bits_deBruijn32tab), ("math/bits.deBruijn64tab", laid_math_bits_deBruijn64tab), ("internal/strconv.uint64pow10", laid_internal_strconv_uint64pow10)], narrowed := true }
def TraceMapsUptoSaid : Prop := traceMapsUptoRow.holds Tryz.pinned (OpenSpec.upto traceMapsSpec)

/-- 'cobblelaw09.TraceRolls', WHERE WHAT IT READS IS OF BULK AT MOST 1048576: true; the input reads as it did. -/
def traceRollsUptoRow : OpenClaim := { program := "ytfihcmhknhbndaagreatdoor", sum := "c961a55402fe9b49f1be32e44790bdb9b34591a938735f112d519a1ad3238669", func := "cobble/cobblelaw09.TraceRolls", spec := "traceRolls", inPlace := ["internal/abi.NoEscape", "internal/bytealg.MakeNoZero"], unfollowed := true, recurses := true, named := ["internal/strconv.uint64pow10", "math/bits.deBruijn32tab", "math/bits.deBruijn64tab"], apart := false, laid := [("math/bits.deBruijn32tab", laid_math_bits_deBruijn32tab), ("math/bits.deBruijn64tab", laid_math_bits_deBruijn64tab), ("internal/strconv.uint64pow10", laid_internal_strconv_uint64pow10)], narrowed := true }
def TraceRollsUptoSaid : Prop := traceRollsUptoRow.holds Tryz.pinned (OpenSpec.upto traceRollsSpec)

/-- 'cobblelaw09.TraceValues', WHERE WHAT IT READS IS OF BULK AT MOST 1048576: true; the input reads as it did. -/
def traceValuesUptoRow : OpenClaim := { program := "ytfihcmhknhbndaagreatdoor", sum := "c961a55402fe9b49f1be32e44790bdb9b34591a938735f112d519a1ad3238669", func := "cobble/cobblelaw09.TraceValues", spec := "traceValues", inPlace := ["internal/abi.NoEscape", "internal/bytealg.MakeNoZero"], unfollowed := true, recurses := true, named := ["internal/strconv.uint64pow10", "math/bits.deBruijn32tab", "math/bits.deBruijn64tab"], apart := false, laid := [("math/bits.deBruijn32tab", laid_math_bits_deBruijn32tab), ("math/bits.deBruijn64tab", laid_math_bits_deBruijn64tab), ("internal/strconv.uint64pow10", laid_internal_strconv_uint64pow10)], narrowed := true }
def TraceValuesUptoSaid : Prop := traceValuesUptoRow.holds Tryz.pinned (OpenSpec.upto traceValuesSpec)

/-- 'cobblelaw09.TraceBack', WHERE WHAT IT READS IS OF BULK AT MOST 1048576: true; the input reads as it did. -/
def traceBackUptoRow : OpenClaim := { program := "ytfihcmhknhbndaagreatdoor", sum := "c961a55402fe9b49f1be32e44790bdb9b34591a938735f112d519a1ad3238669", func := "cobble/cobblelaw09.TraceBack", spec := "traceBack", inPlace := ["internal/abi.NoEscape", "internal/bytealg.MakeNoZero"], unfollowed := true, recurses := true, named := ["internal/strconv.uint64pow10", "math/bits.deBruijn32tab", "math/bits.deBruijn64tab"], apart := false, laid := [("math/bits.deBruijn32tab", laid_math_bits_deBruijn32tab), ("math/bits.deBruijn64tab", laid_math_bits_deBruijn64tab), ("internal/strconv.uint64pow10", laid_internal_strconv_uint64pow10)], narrowed := true }
def TraceBackUptoSaid : Prop := traceBackUptoRow.holds Tryz.pinned (OpenSpec.upto traceBackSpec)

end Rows
end Go.Proofs.YtfihcmhknhbndaaGreatDoor
