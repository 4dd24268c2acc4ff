/-
  NARROWER THAN 'FOR EVERY INPUT', by the rows' own cells (each row's printed sentence says how): DiskRenames: laid · DiskCounts: laid · LexOrders: laid · LexTexts: laid · DiskKeeps: laid · DiskBounds: laid · LexNumbers: laid.
  DERIVED. THE GIVEN ROWS OF THIS SEAT. 7 by the template 'for every input the law returns true; each argument reads behind the call as it read before'; 0 by the template 'total and deterministic' (their statements: YtkfehogefclhdaaDoorTotals.lean).
  GIVEN WITH THE SEED: the statements are not yours to turn. If you find one false, say at which input.
  Laid BY PROGRAM, IN A SANDBOX (cutbox-rows.mjs): the forced cells as the released guide's own fill.sh prints them over the translation 6b8561b8df482995… (all of the seat's roots in one cut). By AI agents, Wed Nov 11 2026. No macro, syntax, notation, axiom, sorry.
-/
import Derived.Test.YtkfehogefclhdaaDoorChecked
import GoSem.Claim
import GoSem.ClaimJoined
import GoSem.ClaimMapViews
import Derived.JoinedTies
import Derived.KernelRfl
namespace Go.Proofs.YtkfehogefclhdaaDoor
/- THE CELL 'sum', in the pinned program and in every row, IS THE sha256 OF THE DUMP (.gsa) THAT YtkfehogefclhdaaDoorProg.lean LOADS. Nothing in Lean hashes anything: it is a label: what it is worth is what the hold of that sum in a sandbox is worth. -/
noncomputable def Tryd.pinned : Pinned := { name := "ytkfehogefclhdaadoor", sum := "6b8561b8df48299516417af18c24ce3fe920a264c0738fd615a23e1647f36309", checked := Tryd.checked }
namespace Rows
def none {H : Type} : Left H := { results := [], args := [] }

/- WHAT THE LISTED PACKAGE-LEVEL VARIABLES READ AS WHEN THE CALL BEGINS. Each datum BY PROGRAM (the guide's laid-datum.mjs) off the statement by which the dump's own 'gosem.cut.vars' lays the variable. In a bare row this is a premise. The card (YtkfehogefclhdaaDoorCards.lean) ties it to the program's text. -/
def laid_postbag_api_WhyName {H : Type} : DataW H := .iface "*errors.errorString" (.ptr (.agg [.lit (.string [110, 111, 32, 115, 117, 99, 104, 32, 110, 97, 109, 101])]))
def laid_postbag_api_WhyMissing {H : Type} : DataW H := .iface "*errors.errorString" (.ptr (.agg [.lit (.string [110, 111, 32, 115, 117, 99, 104, 32, 102, 105, 108, 101])]))
def laid_postbag_api_WhyQuota {H : Type} : DataW H := .iface "*errors.errorString" (.ptr (.agg [.lit (.string [116, 104, 101, 32, 100, 105, 115, 107, 32, 105, 115, 32, 102, 117, 108, 108])]))
def laid_postbag_api_WhyDown {H : Type} : DataW H := .iface "*errors.errorString" (.ptr (.agg [.lit (.string [116, 104, 101, 32, 109, 97, 99, 104, 105, 110, 101, 32, 104, 97, 115, 32, 115, 116, 111, 112, 112, 101, 100])]))
def laid_postbag_api_WhyRefused {H : Type} : DataW H := .iface "*errors.errorString" (.ptr (.agg [.lit (.string [114, 101, 102, 117, 115, 101, 100])]))
def laid_math_bits_deBruijn32tab {H : Type} : DataW H := .agg [.lit (.int .u8 0), .lit (.int .u8 1), .lit (.int .u8 28), .lit (.int .u8 2), .lit (.int .u8 29), .lit (.int .u8 14), .lit (.int .u8 24), .lit (.int .u8 3), .lit (.int .u8 30), .lit (.int .u8 22), .lit (.int .u8 20), .lit (.int .u8 15), .lit (.int .u8 25), .lit (.int .u8 17), .lit (.int .u8 4), .lit (.int .u8 8), .lit (.int .u8 31), .lit (.int .u8 27), .lit (.int .u8 13), .lit (.int .u8 23), .lit (.int .u8 21), .lit (.int .u8 19), .lit (.int .u8 16), .lit (.int .u8 7), .lit (.int .u8 26), .lit (.int .u8 12), .lit (.int .u8 18), .lit (.int .u8 6), .lit (.int .u8 11), .lit (.int .u8 5), .lit (.int .u8 10), .lit (.int .u8 9)]
def laid_math_bits_deBruijn64tab {H : Type} : DataW H := .agg [.lit (.int .u8 0), .lit (.int .u8 1), .lit (.int .u8 56), .lit (.int .u8 2), .lit (.int .u8 57), .lit (.int .u8 49), .lit (.int .u8 28), .lit (.int .u8 3), .lit (.int .u8 61), .lit (.int .u8 58), .lit (.int .u8 42), .lit (.int .u8 50), .lit (.int .u8 38), .lit (.int .u8 29), .lit (.int .u8 17), .lit (.int .u8 4), .lit (.int .u8 62), .lit (.int .u8 47), .lit (.int .u8 59), .lit (.int .u8 36), .lit (.int .u8 45), .lit (.int .u8 43), .lit (.int .u8 51), .lit (.int .u8 22), .lit (.int .u8 53), .lit (.int .u8 39), .lit (.int .u8 33), .lit (.int .u8 30), .lit (.int .u8 24), .lit (.int .u8 18), .lit (.int .u8 12), .lit (.int .u8 5), .lit (.int .u8 63), .lit (.int .u8 55), .lit (.int .u8 48), .lit (.int .u8 27), .lit (.int .u8 60), .lit (.int .u8 41), .lit (.int .u8 37), .lit (.int .u8 16), .lit (.int .u8 46), .lit (.int .u8 35), .lit (.int .u8 44), .lit (.int .u8 21), .lit (.int .u8 52), .lit (.int .u8 32), .lit (.int .u8 23), .lit (.int .u8 11), .lit (.int .u8 54), .lit (.int .u8 26), .lit (.int .u8 40), .lit (.int .u8 15), .lit (.int .u8 34), .lit (.int .u8 20), .lit (.int .u8 31), .lit (.int .u8 10), .lit (.int .u8 25), .lit (.int .u8 14), .lit (.int .u8 19), .lit (.int .u8 9), .lit (.int .u8 13), .lit (.int .u8 8), .lit (.int .u8 7), .lit (.int .u8 6)]
def laid_internal_strconv_uint64pow10 {H : Type} : DataW H := .agg [.lit (.int .u64 1), .lit (.int .u64 10), .lit (.int .u64 100), .lit (.int .u64 1000), .lit (.int .u64 10000), .lit (.int .u64 100000), .lit (.int .u64 1000000), .lit (.int .u64 10000000), .lit (.int .u64 100000000), .lit (.int .u64 1000000000), .lit (.int .u64 10000000000), .lit (.int .u64 100000000000), .lit (.int .u64 1000000000000), .lit (.int .u64 10000000000000), .lit (.int .u64 100000000000000), .lit (.int .u64 1000000000000000), .lit (.int .u64 10000000000000000), .lit (.int .u64 100000000000000000), .lit (.int .u64 1000000000000000000), .lit (.int .u64 10000000000000000000)]
def laid_strconv_ErrRange {H : Type} : DataW H := .iface "*errors.errorString" (.ptr (.agg [.lit (.string [118, 97, 108, 117, 101, 32, 111, 117, 116, 32, 111, 102, 32, 114, 97, 110, 103, 101])]))
def laid_strconv_ErrSyntax {H : Type} : DataW H := .iface "*errors.errorString" (.ptr (.agg [.lit (.string [105, 110, 118, 97, 108, 105, 100, 32, 115, 121, 110, 116, 97, 120])]))

/-- 'postbaglaw9.DiskRenames': WHATEVER THE INPUT: true; the input reads as it did. -/
def diskRenamesSpec : ChangeSpec := { name := "diskRenames", fn := fun _ => fun
  | [d1, d2, d3, d4, d5] => { results := [.lit (.bool true)], args := [d1, d2, d3, d4, d5] }
  | _ => none }
def diskRenamesRow : OpenClaim := { program := "ytkfehogefclhdaadoor", sum := "6b8561b8df48299516417af18c24ce3fe920a264c0738fd615a23e1647f36309", func := "postbag/postbaglaw9.DiskRenames", spec := "diskRenames", inPlace := ["internal/reflectlite.TypeOf"], unfollowed := true, recurses := true, named := ["postbag/api.WhyDown", "postbag/api.WhyName", "postbag/api.WhyRefused", "postbag/api.WhyMissing", "postbag/api.WhyQuota"], apart := false, laid := [("postbag/api.WhyName", laid_postbag_api_WhyName), ("postbag/api.WhyMissing", laid_postbag_api_WhyMissing), ("postbag/api.WhyQuota", laid_postbag_api_WhyQuota), ("postbag/api.WhyDown", laid_postbag_api_WhyDown), ("postbag/api.WhyRefused", laid_postbag_api_WhyRefused)] }
def DiskRenamesSaid : Prop := diskRenamesRow.holds Tryd.pinned (OpenSpec.ofChange diskRenamesSpec)

/-- ITS FALSE NEIGHBOUR: 'it returns false'. Refute it at one input. -/
def diskRenamesWrong : ChangeSpec := { name := "diskRenames", fn := fun _ => fun
  | [d1, d2, d3, d4, d5] => { results := [.lit (.bool false)], args := [d1, d2, d3, d4, d5] }
  | _ => none }
def DiskRenamesWrongFalsely : Prop := diskRenamesRow.holds Tryd.pinned (OpenSpec.ofChange diskRenamesWrong)

/-- 'postbaglaw9.DiskCounts': WHATEVER THE INPUT: true; the input reads as it did. -/
def diskCountsSpec : ChangeSpec := { name := "diskCounts", fn := fun _ => fun
  | [d1, d2, d3] => { results := [.lit (.bool true)], args := [d1, d2, d3] }
  | _ => none }
def diskCountsRow : OpenClaim := { program := "ytkfehogefclhdaadoor", sum := "6b8561b8df48299516417af18c24ce3fe920a264c0738fd615a23e1647f36309", func := "postbag/postbaglaw9.DiskCounts", spec := "diskCounts", inPlace := ["internal/reflectlite.TypeOf"], unfollowed := true, recurses := true, named := ["postbag/api.WhyDown", "postbag/api.WhyName", "postbag/api.WhyRefused", "postbag/api.WhyMissing", "postbag/api.WhyQuota"], apart := false, laid := [("postbag/api.WhyName", laid_postbag_api_WhyName), ("postbag/api.WhyMissing", laid_postbag_api_WhyMissing), ("postbag/api.WhyQuota", laid_postbag_api_WhyQuota), ("postbag/api.WhyDown", laid_postbag_api_WhyDown), ("postbag/api.WhyRefused", laid_postbag_api_WhyRefused)] }
def DiskCountsSaid : Prop := diskCountsRow.holds Tryd.pinned (OpenSpec.ofChange diskCountsSpec)

/-- ITS FALSE NEIGHBOUR: 'it returns false'. Refute it at one input. -/
def diskCountsWrong : ChangeSpec := { name := "diskCounts", fn := fun _ => fun
  | [d1, d2, d3] => { results := [.lit (.bool false)], args := [d1, d2, d3] }
  | _ => none }
def DiskCountsWrongFalsely : Prop := diskCountsRow.holds Tryd.pinned (OpenSpec.ofChange diskCountsWrong)

/-- 'postbaglaw3.LexOrders': WHATEVER THE INPUT: true; the input reads as it did. -/
def lexOrdersSpec : ChangeSpec := { name := "lexOrders", fn := fun _ => fun
  | [d] => { results := [.lit (.bool true)], args := [d] }
  | _ => none }
def lexOrdersRow : OpenClaim := { program := "ytkfehogefclhdaadoor", sum := "6b8561b8df48299516417af18c24ce3fe920a264c0738fd615a23e1647f36309", func := "postbag/postbaglaw3.LexOrders", spec := "lexOrders", inPlace := ["internal/bytealg.IndexByteString", "internal/bytealg.IndexString", "internal/abi.NoEscape"], recurses := true, named := ["internal/bytealg.MaxLen", "internal/strconv.uint64pow10", "math/bits.deBruijn32tab", "math/bits.deBruijn64tab"], apart := false, laid := [("math/bits.deBruijn32tab", laid_math_bits_deBruijn32tab), ("math/bits.deBruijn64tab", laid_math_bits_deBruijn64tab), ("internal/strconv.uint64pow10", laid_internal_strconv_uint64pow10)] }
def LexOrdersSaid : Prop := lexOrdersRow.holds Tryd.pinned (OpenSpec.ofChange lexOrdersSpec)

/-- ITS FALSE NEIGHBOUR: 'it returns false'. Refute it at one input. -/
def lexOrdersWrong : ChangeSpec := { name := "lexOrders", fn := fun _ => fun
  | [d] => { results := [.lit (.bool false)], args := [d] }
  | _ => none }
def LexOrdersWrongFalsely : Prop := lexOrdersRow.holds Tryd.pinned (OpenSpec.ofChange lexOrdersWrong)

/-- 'postbaglaw3.LexTexts': WHATEVER THE INPUT: true; the input reads as it did. -/
def lexTextsSpec : ChangeSpec := { name := "lexTexts", fn := fun _ => fun
  | [d1, d2] => { results := [.lit (.bool true)], args := [d1, d2] }
  | _ => none }
def lexTextsRow : OpenClaim := { program := "ytkfehogefclhdaadoor", sum := "6b8561b8df48299516417af18c24ce3fe920a264c0738fd615a23e1647f36309", func := "postbag/postbaglaw3.LexTexts", spec := "lexTexts", inPlace := ["internal/bytealg.IndexByteString", "internal/bytealg.IndexString", "internal/abi.NoEscape"], recurses := true, named := ["internal/strconv.uint64pow10", "math/bits.deBruijn32tab", "math/bits.deBruijn64tab", "internal/bytealg.MaxLen"], apart := false, laid := [("math/bits.deBruijn32tab", laid_math_bits_deBruijn32tab), ("math/bits.deBruijn64tab", laid_math_bits_deBruijn64tab), ("internal/strconv.uint64pow10", laid_internal_strconv_uint64pow10)] }
def LexTextsSaid : Prop := lexTextsRow.holds Tryd.pinned (OpenSpec.ofChange lexTextsSpec)

/-- ITS FALSE NEIGHBOUR: 'it returns false'. Refute it at one input. -/
def lexTextsWrong : ChangeSpec := { name := "lexTexts", fn := fun _ => fun
  | [d1, d2] => { results := [.lit (.bool false)], args := [d1, d2] }
  | _ => none }
def LexTextsWrongFalsely : Prop := lexTextsRow.holds Tryd.pinned (OpenSpec.ofChange lexTextsWrong)

/-- 'postbaglaw9.DiskKeeps': WHATEVER THE INPUT: true; the input reads as it did. -/
def diskKeepsSpec : ChangeSpec := { name := "diskKeeps", fn := fun _ => fun
  | [d] => { results := [.lit (.bool true)], args := [d] }
  | _ => none }
def diskKeepsRow : OpenClaim := { program := "ytkfehogefclhdaadoor", sum := "6b8561b8df48299516417af18c24ce3fe920a264c0738fd615a23e1647f36309", func := "postbag/postbaglaw9.DiskKeeps", spec := "diskKeeps", inPlace := ["internal/reflectlite.TypeOf"], unfollowed := true, recurses := true, named := ["postbag/api.WhyDown", "postbag/api.WhyName", "postbag/api.WhyRefused", "postbag/api.WhyMissing", "postbag/api.WhyQuota"], apart := false, laid := [("postbag/api.WhyName", laid_postbag_api_WhyName), ("postbag/api.WhyMissing", laid_postbag_api_WhyMissing), ("postbag/api.WhyQuota", laid_postbag_api_WhyQuota), ("postbag/api.WhyDown", laid_postbag_api_WhyDown), ("postbag/api.WhyRefused", laid_postbag_api_WhyRefused)] }
def DiskKeepsSaid : Prop := diskKeepsRow.holds Tryd.pinned (OpenSpec.ofChange diskKeepsSpec)

/-- ITS FALSE NEIGHBOUR: 'it returns false'. Refute it at one input. -/
def diskKeepsWrong : ChangeSpec := { name := "diskKeeps", fn := fun _ => fun
  | [d] => { results := [.lit (.bool false)], args := [d] }
  | _ => none }
def DiskKeepsWrongFalsely : Prop := diskKeepsRow.holds Tryd.pinned (OpenSpec.ofChange diskKeepsWrong)

/-- 'postbaglaw9.DiskBounds': WHATEVER THE INPUT: true; the input reads as it did. -/
def diskBoundsSpec : ChangeSpec := { name := "diskBounds", fn := fun _ => fun
  | [d1, d2] => { results := [.lit (.bool true)], args := [d1, d2] }
  | _ => none }
def diskBoundsRow : OpenClaim := { program := "ytkfehogefclhdaadoor", sum := "6b8561b8df48299516417af18c24ce3fe920a264c0738fd615a23e1647f36309", func := "postbag/postbaglaw9.DiskBounds", spec := "diskBounds", inPlace := ["internal/reflectlite.TypeOf"], unfollowed := true, recurses := true, named := ["postbag/api.WhyName", "postbag/api.WhyRefused", "postbag/api.WhyMissing", "postbag/api.WhyQuota", "postbag/api.WhyDown"], apart := false, laid := [("postbag/api.WhyName", laid_postbag_api_WhyName), ("postbag/api.WhyMissing", laid_postbag_api_WhyMissing), ("postbag/api.WhyQuota", laid_postbag_api_WhyQuota), ("postbag/api.WhyDown", laid_postbag_api_WhyDown), ("postbag/api.WhyRefused", laid_postbag_api_WhyRefused)] }
def DiskBoundsSaid : Prop := diskBoundsRow.holds Tryd.pinned (OpenSpec.ofChange diskBoundsSpec)

/-- ITS FALSE NEIGHBOUR: 'it returns false'. Refute it at one input. -/
def diskBoundsWrong : ChangeSpec := { name := "diskBounds", fn := fun _ => fun
  | [d1, d2] => { results := [.lit (.bool false)], args := [d1, d2] }
  | _ => none }
def DiskBoundsWrongFalsely : Prop := diskBoundsRow.holds Tryd.pinned (OpenSpec.ofChange diskBoundsWrong)

/-- 'postbaglaw3.LexNumbers': WHATEVER THE INPUT: true; the input reads as it did. -/
def lexNumbersSpec : ChangeSpec := { name := "lexNumbers", fn := fun _ => fun
  | [d1, d2] => { results := [.lit (.bool true)], args := [d1, d2] }
  | _ => none }
def lexNumbersRow : OpenClaim := { program := "ytkfehogefclhdaadoor", sum := "6b8561b8df48299516417af18c24ce3fe920a264c0738fd615a23e1647f36309", func := "postbag/postbaglaw3.LexNumbers", spec := "lexNumbers", inPlace := ["internal/bytealg.IndexByteString", "internal/bytealg.IndexString"], named := ["strconv.ErrSyntax", "strconv.ErrRange", "internal/strconv.uint64pow10", "math/bits.deBruijn32tab", "math/bits.deBruijn64tab", "internal/bytealg.MaxLen"], apart := false, laid := [("math/bits.deBruijn32tab", laid_math_bits_deBruijn32tab), ("math/bits.deBruijn64tab", laid_math_bits_deBruijn64tab), ("internal/strconv.uint64pow10", laid_internal_strconv_uint64pow10), ("strconv.ErrRange", laid_strconv_ErrRange), ("strconv.ErrSyntax", laid_strconv_ErrSyntax)] }
def LexNumbersSaid : Prop := lexNumbersRow.holds Tryd.pinned (OpenSpec.ofChange lexNumbersSpec)

/-- ITS FALSE NEIGHBOUR: 'it returns false'. Refute it at one input. -/
def lexNumbersWrong : ChangeSpec := { name := "lexNumbers", fn := fun _ => fun
  | [d1, d2] => { results := [.lit (.bool false)], args := [d1, d2] }
  | _ => none }
def LexNumbersWrongFalsely : Prop := lexNumbersRow.holds Tryd.pinned (OpenSpec.ofChange lexNumbersWrong)

/- THE SECOND FORM. 'bulk': how many values and letters a reading holds, each counted each time it is reached (what is shared counts as often as it is met; a slice's spare places count too). A statement '..UptoSaid' is the law's where the arguments, and the package variables that the reading takes, are together of bulk at most 1048576: NARROWER than '..Said'. Prove '..Said' where nothing that the law and all that it calls make is longer than what came in: it says more and counts as full. Else prove '..UptoSaid'. A law counts once. -/
mutual
def uptoBulk {H : Type} : DataW H → Nat
  | .lit (.string bytes) => bytes.length + 1
  | .lit _ => 1
  | .nil => 1
  | .ptr d => uptoBulk d + 1
  | .slice elems spare => uptoBulkAll elems + uptoBulkAll spare + 1
  | .agg parts => uptoBulkAll parts + 1
  | .iface _ d => uptoBulk d + 1
  | .map entries => uptoBulkEntries entries + 1
  | .held _ => 1
def uptoBulkAll {H : Type} : List (DataW H) → Nat
  | [] => 0
  | d :: r => uptoBulk d + uptoBulkAll r
def uptoBulkEntries {H : Type} : List (Lit × DataW H) → Nat
  | [] => 0
  | x :: r => uptoBulkEntry x + uptoBulkEntries r
def uptoBulkEntry {H : Type} : Lit × DataW H → Nat
  | (.string bytes, d) => bytes.length + uptoBulk d + 1
  | (_, d) => uptoBulk d + 1
 end
def uptoSmall : (H : Type) → List (DataW H) → Bool := fun _ ds => decide (uptoBulkAll ds ≤ 1048576)
def OpenSpec.upto (s : _root_.Go.ChangeSpec) : _root_.Go.OpenSpec := { _root_.Go.OpenSpec.ofChange s with cond := some uptoSmall }

/-- 'postbaglaw9.DiskRenames', WHERE WHAT IT READS IS OF BULK AT MOST 1048576: true; the input reads as it did. -/
def diskRenamesUptoRow : OpenClaim := { program := "ytkfehogefclhdaadoor", sum := "6b8561b8df48299516417af18c24ce3fe920a264c0738fd615a23e1647f36309", func := "postbag/postbaglaw9.DiskRenames", spec := "diskRenames", inPlace := ["internal/reflectlite.TypeOf"], unfollowed := true, recurses := true, named := ["postbag/api.WhyDown", "postbag/api.WhyName", "postbag/api.WhyRefused", "postbag/api.WhyMissing", "postbag/api.WhyQuota"], apart := false, laid := [("postbag/api.WhyName", laid_postbag_api_WhyName), ("postbag/api.WhyMissing", laid_postbag_api_WhyMissing), ("postbag/api.WhyQuota", laid_postbag_api_WhyQuota), ("postbag/api.WhyDown", laid_postbag_api_WhyDown), ("postbag/api.WhyRefused", laid_postbag_api_WhyRefused)], narrowed := true }
def DiskRenamesUptoSaid : Prop := diskRenamesUptoRow.holds Tryd.pinned (OpenSpec.upto diskRenamesSpec)

/-- 'postbaglaw9.DiskCounts', WHERE WHAT IT READS IS OF BULK AT MOST 1048576: true; the input reads as it did. -/
def diskCountsUptoRow : OpenClaim := { program := "ytkfehogefclhdaadoor", sum := "6b8561b8df48299516417af18c24ce3fe920a264c0738fd615a23e1647f36309", func := "postbag/postbaglaw9.DiskCounts", spec := "diskCounts", inPlace := ["internal/reflectlite.TypeOf"], unfollowed := true, recurses := true, named := ["postbag/api.WhyDown", "postbag/api.WhyName", "postbag/api.WhyRefused", "postbag/api.WhyMissing", "postbag/api.WhyQuota"], apart := false, laid := [("postbag/api.WhyName", laid_postbag_api_WhyName), ("postbag/api.WhyMissing", laid_postbag_api_WhyMissing), ("postbag/api.WhyQuota", laid_postbag_api_WhyQuota), ("postbag/api.WhyDown", laid_postbag_api_WhyDown), ("postbag/api.WhyRefused", laid_postbag_api_WhyRefused)], narrowed := true }
def DiskCountsUptoSaid : Prop := diskCountsUptoRow.holds Tryd.pinned (OpenSpec.upto diskCountsSpec)

/-- 'postbaglaw3.LexOrders', WHERE WHAT IT READS IS OF BULK AT MOST 1048576: true; the input reads as it did. -/
def lexOrdersUptoRow : OpenClaim := { program := "ytkfehogefclhdaadoor", sum := "6b8561b8df48299516417af18c24ce3fe920a264c0738fd615a23e1647f36309", func := "postbag/postbaglaw3.LexOrders", spec := "lexOrders", inPlace := ["internal/bytealg.IndexByteString", "internal/bytealg.IndexString", "internal/abi.NoEscape"], recurses := true, named := ["internal/bytealg.MaxLen", "internal/strconv.uint64pow10", "math/bits.deBruijn32tab", "math/bits.deBruijn64tab"], apart := false, laid := [("math/bits.deBruijn32tab", laid_math_bits_deBruijn32tab), ("math/bits.deBruijn64tab", laid_math_bits_deBruijn64tab), ("internal/strconv.uint64pow10", laid_internal_strconv_uint64pow10)], narrowed := true }
def LexOrdersUptoSaid : Prop := lexOrdersUptoRow.holds Tryd.pinned (OpenSpec.upto lexOrdersSpec)

/-- 'postbaglaw3.LexTexts', WHERE WHAT IT READS IS OF BULK AT MOST 1048576: true; the input reads as it did. -/
def lexTextsUptoRow : OpenClaim := { program := "ytkfehogefclhdaadoor", sum := "6b8561b8df48299516417af18c24ce3fe920a264c0738fd615a23e1647f36309", func := "postbag/postbaglaw3.LexTexts", spec := "lexTexts", inPlace := ["internal/bytealg.IndexByteString", "internal/bytealg.IndexString", "internal/abi.NoEscape"], recurses := true, named := ["internal/strconv.uint64pow10", "math/bits.deBruijn32tab", "math/bits.deBruijn64tab", "internal/bytealg.MaxLen"], apart := false, laid := [("math/bits.deBruijn32tab", laid_math_bits_deBruijn32tab), ("math/bits.deBruijn64tab", laid_math_bits_deBruijn64tab), ("internal/strconv.uint64pow10", laid_internal_strconv_uint64pow10)], narrowed := true }
def LexTextsUptoSaid : Prop := lexTextsUptoRow.holds Tryd.pinned (OpenSpec.upto lexTextsSpec)

/-- 'postbaglaw9.DiskKeeps', WHERE WHAT IT READS IS OF BULK AT MOST 1048576: true; the input reads as it did. -/
def diskKeepsUptoRow : OpenClaim := { program := "ytkfehogefclhdaadoor", sum := "6b8561b8df48299516417af18c24ce3fe920a264c0738fd615a23e1647f36309", func := "postbag/postbaglaw9.DiskKeeps", spec := "diskKeeps", inPlace := ["internal/reflectlite.TypeOf"], unfollowed := true, recurses := true, named := ["postbag/api.WhyDown", "postbag/api.WhyName", "postbag/api.WhyRefused", "postbag/api.WhyMissing", "postbag/api.WhyQuota"], apart := false, laid := [("postbag/api.WhyName", laid_postbag_api_WhyName), ("postbag/api.WhyMissing", laid_postbag_api_WhyMissing), ("postbag/api.WhyQuota", laid_postbag_api_WhyQuota), ("postbag/api.WhyDown", laid_postbag_api_WhyDown), ("postbag/api.WhyRefused", laid_postbag_api_WhyRefused)], narrowed := true }
def DiskKeepsUptoSaid : Prop := diskKeepsUptoRow.holds Tryd.pinned (OpenSpec.upto diskKeepsSpec)

/-- 'postbaglaw9.DiskBounds', WHERE WHAT IT READS IS OF BULK AT MOST 1048576: true; the input reads as it did. -/
def diskBoundsUptoRow : OpenClaim := { program := "ytkfehogefclhdaadoor", sum := "6b8561b8df48299516417af18c24ce3fe920a264c0738fd615a23e1647f36309", func := "postbag/postbaglaw9.DiskBounds", spec := "diskBounds", inPlace := ["internal/reflectlite.TypeOf"], unfollowed := true, recurses := true, named := ["postbag/api.WhyName", "postbag/api.WhyRefused", "postbag/api.WhyMissing", "postbag/api.WhyQuota", "postbag/api.WhyDown"], apart := false, laid := [("postbag/api.WhyName", laid_postbag_api_WhyName), ("postbag/api.WhyMissing", laid_postbag_api_WhyMissing), ("postbag/api.WhyQuota", laid_postbag_api_WhyQuota), ("postbag/api.WhyDown", laid_postbag_api_WhyDown), ("postbag/api.WhyRefused", laid_postbag_api_WhyRefused)], narrowed := true }
def DiskBoundsUptoSaid : Prop := diskBoundsUptoRow.holds Tryd.pinned (OpenSpec.upto diskBoundsSpec)

/-- 'postbaglaw3.LexNumbers', WHERE WHAT IT READS IS OF BULK AT MOST 1048576: true; the input reads as it did. -/
def lexNumbersUptoRow : OpenClaim := { program := "ytkfehogefclhdaadoor", sum := "6b8561b8df48299516417af18c24ce3fe920a264c0738fd615a23e1647f36309", func := "postbag/postbaglaw3.LexNumbers", spec := "lexNumbers", inPlace := ["internal/bytealg.IndexByteString", "internal/bytealg.IndexString"], named := ["strconv.ErrSyntax", "strconv.ErrRange", "internal/strconv.uint64pow10", "math/bits.deBruijn32tab", "math/bits.deBruijn64tab", "internal/bytealg.MaxLen"], apart := false, laid := [("math/bits.deBruijn32tab", laid_math_bits_deBruijn32tab), ("math/bits.deBruijn64tab", laid_math_bits_deBruijn64tab), ("internal/strconv.uint64pow10", laid_internal_strconv_uint64pow10), ("strconv.ErrRange", laid_strconv_ErrRange), ("strconv.ErrSyntax", laid_strconv_ErrSyntax)], narrowed := true }
def LexNumbersUptoSaid : Prop := lexNumbersUptoRow.holds Tryd.pinned (OpenSpec.upto lexNumbersSpec)

end Rows
end Go.Proofs.YtkfehogefclhdaaDoor
