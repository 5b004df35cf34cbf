/-
  NARROWER THAN 'FOR EVERY INPUT', by the rows' own cells (each row's printed sentence says how): ReportTexts: laid · ReportFlags: laid · ReportRecords: laid · ReportBack: laid · ReportBundles: laid · ReportWraps: laid.
  DERIVED. THE GIVEN ROWS OF THIS SEAT. 6 by the template 'for every input the law returns true; each argument reads behind the call as it read before'; 0 by the template 'total and deterministic' (their statements: YtcmkpnjbnjbegaaDoorTotals.lean).
  GIVEN WITH THE SEED: the statements are not yours to turn. If you find one false, say at which input.
  Laid BY PROGRAM, IN A SANDBOX (cutbox-rows.mjs): the forced cells as the released guide's own fill.sh prints them over the translation d12f1cb0cee19360… (all of the seat's roots in one cut). By AI agents, Wed Nov 11 2026. No macro, syntax, notation, axiom, sorry.
-/
import Derived.Test.YtcmkpnjbnjbegaaDoorChecked
import GoSem.Claim
import GoSem.ClaimJoined
import GoSem.ClaimMapViews
import Derived.JoinedTies
import Derived.KernelRfl
namespace Go.Proofs.YtcmkpnjbnjbegaaDoor
/- THE CELL 'sum', in the pinned program and in every row, IS THE sha256 OF THE DUMP (.gsa) THAT YtcmkpnjbnjbegaaDoorProg.lean LOADS. Nothing in Lean hashes anything: it is a label: what it is worth is what the hold of that sum in a sandbox is worth. -/
noncomputable def Tryd.pinned : Pinned := { name := "ytcmkpnjbnjbegaadoor", sum := "d12f1cb0cee19360a145231c6a81524683f9e5234e0c5cbb39df27310964c0ce", checked := Tryd.checked }
namespace Rows
def none {H : Type} : Left H := { results := [], args := [] }

/- WHAT THE LISTED PACKAGE-LEVEL VARIABLES READ AS WHEN THE CALL BEGINS. Each datum BY PROGRAM (the guide's laid-datum.mjs) off the statement by which the dump's own 'gosem.cut.vars' lays the variable. In a bare row this is a premise. The card (YtcmkpnjbnjbegaaDoorCards.lean) ties it to the program's text. -/
def laid_math_bits_deBruijn32tab {H : Type} : DataW H := .agg [.lit (.int .u8 0), .lit (.int .u8 1), .lit (.int .u8 28), .lit (.int .u8 2), .lit (.int .u8 29), .lit (.int .u8 14), .lit (.int .u8 24), .lit (.int .u8 3), .lit (.int .u8 30), .lit (.int .u8 22), .lit (.int .u8 20), .lit (.int .u8 15), .lit (.int .u8 25), .lit (.int .u8 17), .lit (.int .u8 4), .lit (.int .u8 8), .lit (.int .u8 31), .lit (.int .u8 27), .lit (.int .u8 13), .lit (.int .u8 23), .lit (.int .u8 21), .lit (.int .u8 19), .lit (.int .u8 16), .lit (.int .u8 7), .lit (.int .u8 26), .lit (.int .u8 12), .lit (.int .u8 18), .lit (.int .u8 6), .lit (.int .u8 11), .lit (.int .u8 5), .lit (.int .u8 10), .lit (.int .u8 9)]
def laid_math_bits_deBruijn64tab {H : Type} : DataW H := .agg [.lit (.int .u8 0), .lit (.int .u8 1), .lit (.int .u8 56), .lit (.int .u8 2), .lit (.int .u8 57), .lit (.int .u8 49), .lit (.int .u8 28), .lit (.int .u8 3), .lit (.int .u8 61), .lit (.int .u8 58), .lit (.int .u8 42), .lit (.int .u8 50), .lit (.int .u8 38), .lit (.int .u8 29), .lit (.int .u8 17), .lit (.int .u8 4), .lit (.int .u8 62), .lit (.int .u8 47), .lit (.int .u8 59), .lit (.int .u8 36), .lit (.int .u8 45), .lit (.int .u8 43), .lit (.int .u8 51), .lit (.int .u8 22), .lit (.int .u8 53), .lit (.int .u8 39), .lit (.int .u8 33), .lit (.int .u8 30), .lit (.int .u8 24), .lit (.int .u8 18), .lit (.int .u8 12), .lit (.int .u8 5), .lit (.int .u8 63), .lit (.int .u8 55), .lit (.int .u8 48), .lit (.int .u8 27), .lit (.int .u8 60), .lit (.int .u8 41), .lit (.int .u8 37), .lit (.int .u8 16), .lit (.int .u8 46), .lit (.int .u8 35), .lit (.int .u8 44), .lit (.int .u8 21), .lit (.int .u8 52), .lit (.int .u8 32), .lit (.int .u8 23), .lit (.int .u8 11), .lit (.int .u8 54), .lit (.int .u8 26), .lit (.int .u8 40), .lit (.int .u8 15), .lit (.int .u8 34), .lit (.int .u8 20), .lit (.int .u8 31), .lit (.int .u8 10), .lit (.int .u8 25), .lit (.int .u8 14), .lit (.int .u8 19), .lit (.int .u8 9), .lit (.int .u8 13), .lit (.int .u8 8), .lit (.int .u8 7), .lit (.int .u8 6)]
def laid_internal_strconv_uint64pow10 {H : Type} : DataW H := .agg [.lit (.int .u64 1), .lit (.int .u64 10), .lit (.int .u64 100), .lit (.int .u64 1000), .lit (.int .u64 10000), .lit (.int .u64 100000), .lit (.int .u64 1000000), .lit (.int .u64 10000000), .lit (.int .u64 100000000), .lit (.int .u64 1000000000), .lit (.int .u64 10000000000), .lit (.int .u64 100000000000), .lit (.int .u64 1000000000000), .lit (.int .u64 10000000000000), .lit (.int .u64 100000000000000), .lit (.int .u64 1000000000000000), .lit (.int .u64 10000000000000000), .lit (.int .u64 100000000000000000), .lit (.int .u64 1000000000000000000), .lit (.int .u64 10000000000000000000)]
def laid_mailboat_report_kinds {H : Type} : DataW H := .agg [.lit (.string []), .lit (.string [114, 101, 99, 101, 105, 118, 101, 100]), .lit (.string [102, 111, 114, 119, 97, 114, 100, 101, 100]), .lit (.string [100, 101, 108, 105, 118, 101, 114, 101, 100]), .lit (.string [100, 101, 108, 101, 116, 101, 100]), .lit (.string [97, 99, 99, 101, 112, 116, 101, 100]), .lit (.string [114, 101, 102, 117, 115, 101, 100])]
def laid_mailboat_report_reasons {H : Type} : DataW H := .agg [.lit (.string []), .lit (.string [108, 105, 102, 101, 116, 105, 109, 101]), .lit (.string [114, 111, 117, 116, 101]), .lit (.string [115, 116, 111, 114, 97, 103, 101]), .lit (.string [98, 108, 111, 99, 107]), .lit (.string [97, 117, 116, 104, 101, 110, 116, 105, 99, 97, 116, 105, 111, 110]), .lit (.string [100, 117, 112, 108, 105, 99, 97, 116, 101]), .lit (.string [104, 111, 112, 115])]

/-- 'mailboatlaw20.ReportTexts': WHATEVER THE INPUT: true; the input reads as it did. -/
def reportTextsSpec : ChangeSpec := { name := "reportTexts", fn := fun _ => fun
  | [d1, d2] => { results := [.lit (.bool true)], args := [d1, d2] }
  | _ => none }
def reportTextsRow : OpenClaim := { program := "ytcmkpnjbnjbegaadoor", sum := "d12f1cb0cee19360a145231c6a81524683f9e5234e0c5cbb39df27310964c0ce", func := "mailboat/mailboatlaw20.ReportTexts", spec := "reportTexts", unfollowed := true, recurses := true, named := ["mailboat/report.kinds", "mailboat/report.reasons", "internal/strconv.uint64pow10", "math/bits.deBruijn32tab", "math/bits.deBruijn64tab"], apart := false, laid := [("math/bits.deBruijn32tab", laid_math_bits_deBruijn32tab), ("math/bits.deBruijn64tab", laid_math_bits_deBruijn64tab), ("internal/strconv.uint64pow10", laid_internal_strconv_uint64pow10), ("mailboat/report.kinds", laid_mailboat_report_kinds), ("mailboat/report.reasons", laid_mailboat_report_reasons)] }
def ReportTextsSaid : Prop := reportTextsRow.holds Tryd.pinned (OpenSpec.ofChange reportTextsSpec)

/-- ITS FALSE NEIGHBOUR: 'it returns false'. Refute it at one input. -/
def reportTextsWrong : ChangeSpec := { name := "reportTexts", fn := fun _ => fun
  | [d1, d2] => { results := [.lit (.bool false)], args := [d1, d2] }
  | _ => none }
def ReportTextsWrongFalsely : Prop := reportTextsRow.holds Tryd.pinned (OpenSpec.ofChange reportTextsWrong)

/-- 'mailboatlaw20.ReportFlags': WHATEVER THE INPUT: true; the input reads as it did. -/
def reportFlagsSpec : ChangeSpec := { name := "reportFlags", fn := fun _ => fun
  | [d1, d2, d3] => { results := [.lit (.bool true)], args := [d1, d2, d3] }
  | _ => none }
def reportFlagsRow : OpenClaim := { program := "ytcmkpnjbnjbegaadoor", sum := "d12f1cb0cee19360a145231c6a81524683f9e5234e0c5cbb39df27310964c0ce", func := "mailboat/mailboatlaw20.ReportFlags", spec := "reportFlags", unfollowed := true, recurses := true, named := ["mailboat/report.kinds", "mailboat/report.reasons", "internal/strconv.uint64pow10", "math/bits.deBruijn32tab", "math/bits.deBruijn64tab"], apart := false, laid := [("math/bits.deBruijn32tab", laid_math_bits_deBruijn32tab), ("math/bits.deBruijn64tab", laid_math_bits_deBruijn64tab), ("internal/strconv.uint64pow10", laid_internal_strconv_uint64pow10), ("mailboat/report.kinds", laid_mailboat_report_kinds), ("mailboat/report.reasons", laid_mailboat_report_reasons)] }
def ReportFlagsSaid : Prop := reportFlagsRow.holds Tryd.pinned (OpenSpec.ofChange reportFlagsSpec)

/-- ITS FALSE NEIGHBOUR: 'it returns false'. Refute it at one input. -/
def reportFlagsWrong : ChangeSpec := { name := "reportFlags", fn := fun _ => fun
  | [d1, d2, d3] => { results := [.lit (.bool false)], args := [d1, d2, d3] }
  | _ => none }
def ReportFlagsWrongFalsely : Prop := reportFlagsRow.holds Tryd.pinned (OpenSpec.ofChange reportFlagsWrong)

/-- 'mailboatlaw20.ReportRecords': WHATEVER THE INPUT: true; the input reads as it did. -/
def reportRecordsSpec : ChangeSpec := { name := "reportRecords", fn := fun _ => fun
  | [d1, d2] => { results := [.lit (.bool true)], args := [d1, d2] }
  | _ => none }
def reportRecordsRow : OpenClaim := { program := "ytcmkpnjbnjbegaadoor", sum := "d12f1cb0cee19360a145231c6a81524683f9e5234e0c5cbb39df27310964c0ce", func := "mailboat/mailboatlaw20.ReportRecords", spec := "reportRecords", unfollowed := true, recurses := true, named := ["mailboat/report.kinds", "mailboat/report.reasons", "internal/strconv.uint64pow10", "math/bits.deBruijn32tab", "math/bits.deBruijn64tab"], apart := false, laid := [("math/bits.deBruijn32tab", laid_math_bits_deBruijn32tab), ("math/bits.deBruijn64tab", laid_math_bits_deBruijn64tab), ("internal/strconv.uint64pow10", laid_internal_strconv_uint64pow10), ("mailboat/report.kinds", laid_mailboat_report_kinds), ("mailboat/report.reasons", laid_mailboat_report_reasons)] }
def ReportRecordsSaid : Prop := reportRecordsRow.holds Tryd.pinned (OpenSpec.ofChange reportRecordsSpec)

/-- ITS FALSE NEIGHBOUR: 'it returns false'. Refute it at one input. -/
def reportRecordsWrong : ChangeSpec := { name := "reportRecords", fn := fun _ => fun
  | [d1, d2] => { results := [.lit (.bool false)], args := [d1, d2] }
  | _ => none }
def ReportRecordsWrongFalsely : Prop := reportRecordsRow.holds Tryd.pinned (OpenSpec.ofChange reportRecordsWrong)

/-- 'mailboatlaw20.ReportBack': WHATEVER THE INPUT: true; the input reads as it did. -/
def reportBackSpec : ChangeSpec := { name := "reportBack", fn := fun _ => fun
  | [d1, d2] => { results := [.lit (.bool true)], args := [d1, d2] }
  | _ => none }
def reportBackRow : OpenClaim := { program := "ytcmkpnjbnjbegaadoor", sum := "d12f1cb0cee19360a145231c6a81524683f9e5234e0c5cbb39df27310964c0ce", func := "mailboat/mailboatlaw20.ReportBack", spec := "reportBack", unfollowed := true, recurses := true, named := ["mailboat/report.kinds", "mailboat/report.reasons", "internal/strconv.uint64pow10", "math/bits.deBruijn32tab", "math/bits.deBruijn64tab"], apart := false, laid := [("math/bits.deBruijn32tab", laid_math_bits_deBruijn32tab), ("math/bits.deBruijn64tab", laid_math_bits_deBruijn64tab), ("internal/strconv.uint64pow10", laid_internal_strconv_uint64pow10), ("mailboat/report.kinds", laid_mailboat_report_kinds), ("mailboat/report.reasons", laid_mailboat_report_reasons)] }
def ReportBackSaid : Prop := reportBackRow.holds Tryd.pinned (OpenSpec.ofChange reportBackSpec)

/-- ITS FALSE NEIGHBOUR: 'it returns false'. Refute it at one input. -/
def reportBackWrong : ChangeSpec := { name := "reportBack", fn := fun _ => fun
  | [d1, d2] => { results := [.lit (.bool false)], args := [d1, d2] }
  | _ => none }
def ReportBackWrongFalsely : Prop := reportBackRow.holds Tryd.pinned (OpenSpec.ofChange reportBackWrong)

/-- 'mailboatlaw20.ReportBundles': WHATEVER THE INPUT: true; the input reads as it did. -/
def reportBundlesSpec : ChangeSpec := { name := "reportBundles", fn := fun _ => fun
  | [d1, d2, d3, d4, d5] => { results := [.lit (.bool true)], args := [d1, d2, d3, d4, d5] }
  | _ => none }
def reportBundlesRow : OpenClaim := { program := "ytcmkpnjbnjbegaadoor", sum := "d12f1cb0cee19360a145231c6a81524683f9e5234e0c5cbb39df27310964c0ce", func := "mailboat/mailboatlaw20.ReportBundles", spec := "reportBundles", unfollowed := true, recurses := true, named := ["mailboat/report.kinds", "mailboat/report.reasons", "internal/strconv.uint64pow10", "math/bits.deBruijn32tab", "math/bits.deBruijn64tab"], apart := false, laid := [("math/bits.deBruijn32tab", laid_math_bits_deBruijn32tab), ("math/bits.deBruijn64tab", laid_math_bits_deBruijn64tab), ("internal/strconv.uint64pow10", laid_internal_strconv_uint64pow10), ("mailboat/report.kinds", laid_mailboat_report_kinds), ("mailboat/report.reasons", laid_mailboat_report_reasons)] }
def ReportBundlesSaid : Prop := reportBundlesRow.holds Tryd.pinned (OpenSpec.ofChange reportBundlesSpec)

/-- ITS FALSE NEIGHBOUR: 'it returns false'. Refute it at one input. -/
def reportBundlesWrong : ChangeSpec := { name := "reportBundles", fn := fun _ => fun
  | [d1, d2, d3, d4, d5] => { results := [.lit (.bool false)], args := [d1, d2, d3, d4, d5] }
  | _ => none }
def ReportBundlesWrongFalsely : Prop := reportBundlesRow.holds Tryd.pinned (OpenSpec.ofChange reportBundlesWrong)

/-- 'mailboatlaw20.ReportWraps': WHATEVER THE INPUT: true; the input reads as it did. -/
def reportWrapsSpec : ChangeSpec := { name := "reportWraps", fn := fun _ => fun
  | [d1, d2, d3] => { results := [.lit (.bool true)], args := [d1, d2, d3] }
  | _ => none }
def reportWrapsRow : OpenClaim := { program := "ytcmkpnjbnjbegaadoor", sum := "d12f1cb0cee19360a145231c6a81524683f9e5234e0c5cbb39df27310964c0ce", func := "mailboat/mailboatlaw20.ReportWraps", spec := "reportWraps", unfollowed := true, recurses := true, named := ["mailboat/report.kinds", "mailboat/report.reasons", "internal/strconv.uint64pow10", "math/bits.deBruijn32tab", "math/bits.deBruijn64tab"], apart := false, laid := [("math/bits.deBruijn32tab", laid_math_bits_deBruijn32tab), ("math/bits.deBruijn64tab", laid_math_bits_deBruijn64tab), ("internal/strconv.uint64pow10", laid_internal_strconv_uint64pow10), ("mailboat/report.kinds", laid_mailboat_report_kinds), ("mailboat/report.reasons", laid_mailboat_report_reasons)] }
def ReportWrapsSaid : Prop := reportWrapsRow.holds Tryd.pinned (OpenSpec.ofChange reportWrapsSpec)

/-- ITS FALSE NEIGHBOUR: 'it returns false'. Refute it at one input. -/
def reportWrapsWrong : ChangeSpec := { name := "reportWraps", fn := fun _ => fun
  | [d1, d2, d3] => { results := [.lit (.bool false)], args := [d1, d2, d3] }
  | _ => none }
def ReportWrapsWrongFalsely : Prop := reportWrapsRow.holds Tryd.pinned (OpenSpec.ofChange reportWrapsWrong)

/- THE SECOND FORM. 'bulk': how many values and letters a reading holds, each counted each time it is reached (what is shared counts as often as it is met; a slice's spare places count too). A statement '..UptoSaid' is the law's where the arguments, and the package variables that the reading takes, are together of bulk at most 1048576: NARROWER than '..Said'. Prove '..Said' where nothing that the law and all that it calls make is longer than what came in: it says more and counts as full. Else prove '..UptoSaid'. A law counts once. -/
mutual
def uptoBulk {H : Type} : DataW H → Nat
  | .lit (.string bytes) => bytes.length + 1
  | .lit _ => 1
  | .nil => 1
  | .ptr d => uptoBulk d + 1
  | .slice elems spare => uptoBulkAll elems + uptoBulkAll spare + 1
  | .agg parts => uptoBulkAll parts + 1
  | .iface _ d => uptoBulk d + 1
  | .map entries => uptoBulkEntries entries + 1
  | .held _ => 1
def uptoBulkAll {H : Type} : List (DataW H) → Nat
  | [] => 0
  | d :: r => uptoBulk d + uptoBulkAll r
def uptoBulkEntries {H : Type} : List (Lit × DataW H) → Nat
  | [] => 0
  | x :: r => uptoBulkEntry x + uptoBulkEntries r
def uptoBulkEntry {H : Type} : Lit × DataW H → Nat
  | (.string bytes, d) => bytes.length + uptoBulk d + 1
  | (_, d) => uptoBulk d + 1
 end
def uptoSmall : (H : Type) → List (DataW H) → Bool := fun _ ds => decide (uptoBulkAll ds ≤ 1048576)
def OpenSpec.upto (s : _root_.Go.ChangeSpec) : _root_.Go.OpenSpec := { _root_.Go.OpenSpec.ofChange s with cond := some uptoSmall }

/-- 'mailboatlaw20.ReportTexts', WHERE WHAT IT READS IS OF BULK AT MOST 1048576: true; the input reads as it did. -/
def reportTextsUptoRow : OpenClaim := { program := "ytcmkpnjbnjbegaadoor", sum := "d12f1cb0cee19360a145231c6a81524683f9e5234e0c5cbb39df27310964c0ce", func := "mailboat/mailboatlaw20.ReportTexts", spec := "reportTexts", unfollowed := true, recurses := true, named := ["mailboat/report.kinds", "mailboat/report.reasons", "internal/strconv.uint64pow10", "math/bits.deBruijn32tab", "math/bits.deBruijn64tab"], apart := false, laid := [("math/bits.deBruijn32tab", laid_math_bits_deBruijn32tab), ("math/bits.deBruijn64tab", laid_math_bits_deBruijn64tab), ("internal/strconv.uint64pow10", laid_internal_strconv_uint64pow10), ("mailboat/report.kinds", laid_mailboat_report_kinds), ("mailboat/report.reasons", laid_mailboat_report_reasons)], narrowed := true }
def ReportTextsUptoSaid : Prop := reportTextsUptoRow.holds Tryd.pinned (OpenSpec.upto reportTextsSpec)

/-- 'mailboatlaw20.ReportFlags', WHERE WHAT IT READS IS OF BULK AT MOST 1048576: true; the input reads as it did. -/
def reportFlagsUptoRow : OpenClaim := { program := "ytcmkpnjbnjbegaadoor", sum := "d12f1cb0cee19360a145231c6a81524683f9e5234e0c5cbb39df27310964c0ce", func := "mailboat/mailboatlaw20.ReportFlags", spec := "reportFlags", unfollowed := true, recurses := true, named := ["mailboat/report.kinds", "mailboat/report.reasons", "internal/strconv.uint64pow10", "math/bits.deBruijn32tab", "math/bits.deBruijn64tab"], apart := false, laid := [("math/bits.deBruijn32tab", laid_math_bits_deBruijn32tab), ("math/bits.deBruijn64tab", laid_math_bits_deBruijn64tab), ("internal/strconv.uint64pow10", laid_internal_strconv_uint64pow10), ("mailboat/report.kinds", laid_mailboat_report_kinds), ("mailboat/report.reasons", laid_mailboat_report_reasons)], narrowed := true }
def ReportFlagsUptoSaid : Prop := reportFlagsUptoRow.holds Tryd.pinned (OpenSpec.upto reportFlagsSpec)

/-- 'mailboatlaw20.ReportRecords', WHERE WHAT IT READS IS OF BULK AT MOST 1048576: true; the input reads as it did. -/
def reportRecordsUptoRow : OpenClaim := { program := "ytcmkpnjbnjbegaadoor", sum := "d12f1cb0cee19360a145231c6a81524683f9e5234e0c5cbb39df27310964c0ce", func := "mailboat/mailboatlaw20.ReportRecords", spec := "reportRecords", unfollowed := true, recurses := true, named := ["mailboat/report.kinds", "mailboat/report.reasons", "internal/strconv.uint64pow10", "math/bits.deBruijn32tab", "math/bits.deBruijn64tab"], apart := false, laid := [("math/bits.deBruijn32tab", laid_math_bits_deBruijn32tab), ("math/bits.deBruijn64tab", laid_math_bits_deBruijn64tab), ("internal/strconv.uint64pow10", laid_internal_strconv_uint64pow10), ("mailboat/report.kinds", laid_mailboat_report_kinds), ("mailboat/report.reasons", laid_mailboat_report_reasons)], narrowed := true }
def ReportRecordsUptoSaid : Prop := reportRecordsUptoRow.holds Tryd.pinned (OpenSpec.upto reportRecordsSpec)

/-- 'mailboatlaw20.ReportBack', WHERE WHAT IT READS IS OF BULK AT MOST 1048576: true; the input reads as it did. -/
def reportBackUptoRow : OpenClaim := { program := "ytcmkpnjbnjbegaadoor", sum := "d12f1cb0cee19360a145231c6a81524683f9e5234e0c5cbb39df27310964c0ce", func := "mailboat/mailboatlaw20.ReportBack", spec := "reportBack", unfollowed := true, recurses := true, named := ["mailboat/report.kinds", "mailboat/report.reasons", "internal/strconv.uint64pow10", "math/bits.deBruijn32tab", "math/bits.deBruijn64tab"], apart := false, laid := [("math/bits.deBruijn32tab", laid_math_bits_deBruijn32tab), ("math/bits.deBruijn64tab", laid_math_bits_deBruijn64tab), ("internal/strconv.uint64pow10", laid_internal_strconv_uint64pow10), ("mailboat/report.kinds", laid_mailboat_report_kinds), ("mailboat/report.reasons", laid_mailboat_report_reasons)], narrowed := true }
def ReportBackUptoSaid : Prop := reportBackUptoRow.holds Tryd.pinned (OpenSpec.upto reportBackSpec)

/-- 'mailboatlaw20.ReportBundles', WHERE WHAT IT READS IS OF BULK AT MOST 1048576: true; the input reads as it did. -/
def reportBundlesUptoRow : OpenClaim := { program := "ytcmkpnjbnjbegaadoor", sum := "d12f1cb0cee19360a145231c6a81524683f9e5234e0c5cbb39df27310964c0ce", func := "mailboat/mailboatlaw20.ReportBundles", spec := "reportBundles", unfollowed := true, recurses := true, named := ["mailboat/report.kinds", "mailboat/report.reasons", "internal/strconv.uint64pow10", "math/bits.deBruijn32tab", "math/bits.deBruijn64tab"], apart := false, laid := [("math/bits.deBruijn32tab", laid_math_bits_deBruijn32tab), ("math/bits.deBruijn64tab", laid_math_bits_deBruijn64tab), ("internal/strconv.uint64pow10", laid_internal_strconv_uint64pow10), ("mailboat/report.kinds", laid_mailboat_report_kinds), ("mailboat/report.reasons", laid_mailboat_report_reasons)], narrowed := true }
def ReportBundlesUptoSaid : Prop := reportBundlesUptoRow.holds Tryd.pinned (OpenSpec.upto reportBundlesSpec)

/-- 'mailboatlaw20.ReportWraps', WHERE WHAT IT READS IS OF BULK AT MOST 1048576: true; the input reads as it did. -/
def reportWrapsUptoRow : OpenClaim := { program := "ytcmkpnjbnjbegaadoor", sum := "d12f1cb0cee19360a145231c6a81524683f9e5234e0c5cbb39df27310964c0ce", func := "mailboat/mailboatlaw20.ReportWraps", spec := "reportWraps", unfollowed := true, recurses := true, named := ["mailboat/report.kinds", "mailboat/report.reasons", "internal/strconv.uint64pow10", "math/bits.deBruijn32tab", "math/bits.deBruijn64tab"], apart := false, laid := [("math/bits.deBruijn32tab", laid_math_bits_deBruijn32tab), ("math/bits.deBruijn64tab", laid_math_bits_deBruijn64tab), ("internal/strconv.uint64pow10", laid_internal_strconv_uint64pow10), ("mailboat/report.kinds", laid_mailboat_report_kinds), ("mailboat/report.reasons", laid_mailboat_report_reasons)], narrowed := true }
def ReportWrapsUptoSaid : Prop := reportWrapsUptoRow.holds Tryd.pinned (OpenSpec.upto reportWrapsSpec)

end Rows
end Go.Proofs.YtcmkpnjbnjbegaaDoor
