/-
  No cell of these rows narrows 'for every input' (looked for: loops, veiled, ifaces, maps, wideKeys, modest, calm, conditions, laid).
  DERIVED. THE GIVEN ROWS OF THIS SEAT. 3 by the template 'for every input the law returns true; each argument reads behind the call as it read before'; 0 by the template 'total and deterministic' (their statements: YtkfehogefclhdaaTotals.lean).
  GIVEN WITH THE SEED: the statements are not yours to turn. If you find one false, say at which input.
  Laid BY PROGRAM, IN A SANDBOX (cutbox-rows.mjs): the forced cells as the released guide's own fill.sh prints them over the translation 1c87a25e1eaae5bb… (all of the seat's roots in one cut). By AI agents, Wed Nov 11 2026. No macro, syntax, notation, axiom, sorry.
-/
import Derived.Test.YtkfehogefclhdaaChecked
import GoSem.Claim
import GoSem.ClaimJoined
import GoSem.ClaimMapViews
import Derived.JoinedTies
import Derived.KernelRfl
namespace Go.Proofs.Ytkfehogefclhdaa
/- THE CELL 'sum', in the pinned program and in every row, IS THE sha256 OF THE DUMP (.gsa) THAT YtkfehogefclhdaaProg.lean LOADS. Nothing in Lean hashes anything: it is a label: what it is worth is what the hold of that sum in a sandbox is worth. -/
noncomputable def Try.pinned : Pinned := { name := "ytkfehogefclhdaa", sum := "1c87a25e1eaae5bb32d9fc0cb2ae742f3e5e3ebc767f637a7b592a18eb8cb4ee", checked := Try.checked }
namespace Rows
def none {H : Type} : Left H := { results := [], args := [] }

/-- 'postbaglaw12.StoreMatches': WHATEVER THE INPUT: true; the input reads as it did. -/
def storeMatchesSpec : ChangeSpec := { name := "storeMatches", fn := fun _ => fun
  | [d1, d2] => { results := [.lit (.bool true)], args := [d1, d2] }
  | _ => none }
def storeMatchesRow : OpenClaim := { program := "ytkfehogefclhdaa", sum := "1c87a25e1eaae5bb32d9fc0cb2ae742f3e5e3ebc767f637a7b592a18eb8cb4ee", func := "postbag/postbaglaw12.StoreMatches", spec := "storeMatches", apart := false }
def StoreMatchesSaid : Prop := storeMatchesRow.holds Try.pinned (OpenSpec.ofChange storeMatchesSpec)

/-- ITS FALSE NEIGHBOUR: 'it returns false'. Refute it at one input. -/
def storeMatchesWrong : ChangeSpec := { name := "storeMatches", fn := fun _ => fun
  | [d1, d2] => { results := [.lit (.bool false)], args := [d1, d2] }
  | _ => none }
def StoreMatchesWrongFalsely : Prop := storeMatchesRow.holds Try.pinned (OpenSpec.ofChange storeMatchesWrong)

/-- 'postbaglaw12.StorePatterns': WHATEVER THE INPUT: true; the input reads as it did. -/
def storePatternsSpec : ChangeSpec := { name := "storePatterns", fn := fun _ => fun
  | [d1, d2, d3, d4] => { results := [.lit (.bool true)], args := [d1, d2, d3, d4] }
  | _ => none }
def storePatternsRow : OpenClaim := { program := "ytkfehogefclhdaa", sum := "1c87a25e1eaae5bb32d9fc0cb2ae742f3e5e3ebc767f637a7b592a18eb8cb4ee", func := "postbag/postbaglaw12.StorePatterns", spec := "storePatterns", apart := false }
def StorePatternsSaid : Prop := storePatternsRow.holds Try.pinned (OpenSpec.ofChange storePatternsSpec)

/-- ITS FALSE NEIGHBOUR: 'it returns false'. Refute it at one input. -/
def storePatternsWrong : ChangeSpec := { name := "storePatterns", fn := fun _ => fun
  | [d1, d2, d3, d4] => { results := [.lit (.bool false)], args := [d1, d2, d3, d4] }
  | _ => none }
def StorePatternsWrongFalsely : Prop := storePatternsRow.holds Try.pinned (OpenSpec.ofChange storePatternsWrong)

/-- 'postbaglaw3.LexClasses': WHATEVER THE INPUT: true; the input reads as it did. -/
def lexClassesSpec : ChangeSpec := { name := "lexClasses", fn := fun _ => fun
  | [d1, d2] => { results := [.lit (.bool true)], args := [d1, d2] }
  | _ => none }
def lexClassesRow : OpenClaim := { program := "ytkfehogefclhdaa", sum := "1c87a25e1eaae5bb32d9fc0cb2ae742f3e5e3ebc767f637a7b592a18eb8cb4ee", func := "postbag/postbaglaw3.LexClasses", spec := "lexClasses", inPlace := ["internal/bytealg.IndexByteString", "internal/bytealg.IndexString"], recurses := true, named := ["internal/bytealg.MaxLen"], apart := false }
def LexClassesSaid : Prop := lexClassesRow.holds Try.pinned (OpenSpec.ofChange lexClassesSpec)

/-- ITS FALSE NEIGHBOUR: 'it returns false'. Refute it at one input. -/
def lexClassesWrong : ChangeSpec := { name := "lexClasses", fn := fun _ => fun
  | [d1, d2] => { results := [.lit (.bool false)], args := [d1, d2] }
  | _ => none }
def LexClassesWrongFalsely : Prop := lexClassesRow.holds Try.pinned (OpenSpec.ofChange lexClassesWrong)

/- THE SECOND FORM. 'bulk': how many values and letters a reading holds, each counted each time it is reached (what is shared counts as often as it is met; a slice's spare places count too). A statement '..UptoSaid' is the law's where the arguments, and the package variables that the reading takes, are together of bulk at most 1048576: NARROWER than '..Said'. Prove '..Said' where nothing that the law and all that it calls make is longer than what came in: it says more and counts as full. Else prove '..UptoSaid'. A law counts once. -/
mutual
def uptoBulk {H : Type} : DataW H → Nat
  | .lit (.string bytes) => bytes.length + 1
  | .lit _ => 1
  | .nil => 1
  | .ptr d => uptoBulk d + 1
  | .slice elems spare => uptoBulkAll elems + uptoBulkAll spare + 1
  | .agg parts => uptoBulkAll parts + 1
  | .iface _ d => uptoBulk d + 1
  | .map entries => uptoBulkEntries entries + 1
  | .held _ => 1
def uptoBulkAll {H : Type} : List (DataW H) → Nat
  | [] => 0
  | d :: r => uptoBulk d + uptoBulkAll r
def uptoBulkEntries {H : Type} : List (Lit × DataW H) → Nat
  | [] => 0
  | x :: r => uptoBulkEntry x + uptoBulkEntries r
def uptoBulkEntry {H : Type} : Lit × DataW H → Nat
  | (.string bytes, d) => bytes.length + uptoBulk d + 1
  | (_, d) => uptoBulk d + 1
 end
def uptoSmall : (H : Type) → List (DataW H) → Bool := fun _ ds => decide (uptoBulkAll ds ≤ 1048576)
def OpenSpec.upto (s : _root_.Go.ChangeSpec) : _root_.Go.OpenSpec := { _root_.Go.OpenSpec.ofChange s with cond := some uptoSmall }

/-- 'postbaglaw12.StoreMatches', WHERE WHAT IT READS IS OF BULK AT MOST 1048576: true; the input reads as it did. -/
def storeMatchesUptoRow : OpenClaim := { program := "ytkfehogefclhdaa", sum := "1c87a25e1eaae5bb32d9fc0cb2ae742f3e5e3ebc767f637a7b592a18eb8cb4ee", func := "postbag/postbaglaw12.StoreMatches", spec := "storeMatches", apart := false, narrowed := true }
def StoreMatchesUptoSaid : Prop := storeMatchesUptoRow.holds Try.pinned (OpenSpec.upto storeMatchesSpec)

/-- 'postbaglaw12.StorePatterns', WHERE WHAT IT READS IS OF BULK AT MOST 1048576: true; the input reads as it did. -/
def storePatternsUptoRow : OpenClaim := { program := "ytkfehogefclhdaa", sum := "1c87a25e1eaae5bb32d9fc0cb2ae742f3e5e3ebc767f637a7b592a18eb8cb4ee", func := "postbag/postbaglaw12.StorePatterns", spec := "storePatterns", apart := false, narrowed := true }
def StorePatternsUptoSaid : Prop := storePatternsUptoRow.holds Try.pinned (OpenSpec.upto storePatternsSpec)

/-- 'postbaglaw3.LexClasses', WHERE WHAT IT READS IS OF BULK AT MOST 1048576: true; the input reads as it did. -/
def lexClassesUptoRow : OpenClaim := { program := "ytkfehogefclhdaa", sum := "1c87a25e1eaae5bb32d9fc0cb2ae742f3e5e3ebc767f637a7b592a18eb8cb4ee", func := "postbag/postbaglaw3.LexClasses", spec := "lexClasses", inPlace := ["internal/bytealg.IndexByteString", "internal/bytealg.IndexString"], recurses := true, named := ["internal/bytealg.MaxLen"], apart := false, narrowed := true }
def LexClassesUptoSaid : Prop := lexClassesUptoRow.holds Try.pinned (OpenSpec.upto lexClassesSpec)

end Rows
end Go.Proofs.Ytkfehogefclhdaa
