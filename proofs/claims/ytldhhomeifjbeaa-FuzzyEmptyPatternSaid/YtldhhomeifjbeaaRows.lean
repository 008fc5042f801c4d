/-
  No cell of these rows narrows 'for every input' (looked for: loops, veiled, ifaces, maps, wideKeys, modest, calm, conditions, laid).
  DERIVED. THE GIVEN ROWS OF THIS SEAT. 4 by the template 'for every input the law returns true; each argument reads behind the call as it read before'; 0 by the template 'total and deterministic' (their statements: YtldhhomeifjbeaaTotals.lean).
  GIVEN WITH THE SEED: the statements are not yours to turn. If you find one false, say at which input.
  Laid BY PROGRAM, IN A SANDBOX (cutbox-rows.mjs): the forced cells as the released guide's own fill.sh prints them over the translation 9d9e88f7eddf3890… (all of the seat's roots in one cut). By AI agents, Wed Nov 11 2026. No macro, syntax, notation, axiom, sorry.
-/
import Derived.Test.YtldhhomeifjbeaaChecked
import GoSem.Claim
import GoSem.ClaimJoined
import GoSem.ClaimMapViews
import Derived.JoinedTies
import Derived.KernelRfl
namespace Go.Proofs.Ytldhhomeifjbeaa
/- THE CELL 'sum', in the pinned program and in every row, IS THE sha256 OF THE DUMP (.gsa) THAT YtldhhomeifjbeaaProg.lean LOADS. Nothing in Lean hashes anything: it is a label: what it is worth is what the hold of that sum in a sandbox is worth. -/
noncomputable def Try.pinned : Pinned := { name := "ytldhhomeifjbeaa", sum := "9d9e88f7eddf3890744605ff6bab944274beb69c2e8319f47dd9d48545a02776", checked := Try.checked }
namespace Rows
def none {H : Type} : Left H := { results := [], args := [] }

/-- 'glossatorkeep4.FuzzyScoreOptimal': WHATEVER THE INPUT: true; the input reads as it did. -/
def fuzzyScoreOptimalSpec : ChangeSpec := { name := "fuzzyScoreOptimal", fn := fun _ => fun
  | [d1, d2, d3] => { results := [.lit (.bool true)], args := [d1, d2, d3] }
  | _ => none }
def fuzzyScoreOptimalRow : OpenClaim := { program := "ytldhhomeifjbeaa", sum := "9d9e88f7eddf3890744605ff6bab944274beb69c2e8319f47dd9d48545a02776", func := "glossator/glossatorkeep4.FuzzyScoreOptimal", spec := "fuzzyScoreOptimal", inPlace := ["internal/bytealg.abigen_runtime_cmpstring"], unfollowed := true, recurses := true, apart := false }
def FuzzyScoreOptimalSaid : Prop := fuzzyScoreOptimalRow.holds Try.pinned (OpenSpec.ofChange fuzzyScoreOptimalSpec)

/-- ITS FALSE NEIGHBOUR: 'it returns false'. Refute it at one input. -/
def fuzzyScoreOptimalWrong : ChangeSpec := { name := "fuzzyScoreOptimal", fn := fun _ => fun
  | [d1, d2, d3] => { results := [.lit (.bool false)], args := [d1, d2, d3] }
  | _ => none }
def FuzzyScoreOptimalWrongFalsely : Prop := fuzzyScoreOptimalRow.holds Try.pinned (OpenSpec.ofChange fuzzyScoreOptimalWrong)

/-- 'glossatorkeep4.FuzzySubstringMatches': WHATEVER THE INPUT: true; the input reads as it did. -/
def fuzzySubstringMatchesSpec : ChangeSpec := { name := "fuzzySubstringMatches", fn := fun _ => fun
  | [d1, d2, d3] => { results := [.lit (.bool true)], args := [d1, d2, d3] }
  | _ => none }
def fuzzySubstringMatchesRow : OpenClaim := { program := "ytldhhomeifjbeaa", sum := "9d9e88f7eddf3890744605ff6bab944274beb69c2e8319f47dd9d48545a02776", func := "glossator/glossatorkeep4.FuzzySubstringMatches", spec := "fuzzySubstringMatches", inPlace := ["internal/bytealg.abigen_runtime_cmpstring"], unfollowed := true, recurses := true, apart := false }
def FuzzySubstringMatchesSaid : Prop := fuzzySubstringMatchesRow.holds Try.pinned (OpenSpec.ofChange fuzzySubstringMatchesSpec)

/-- ITS FALSE NEIGHBOUR: 'it returns false'. Refute it at one input. -/
def fuzzySubstringMatchesWrong : ChangeSpec := { name := "fuzzySubstringMatches", fn := fun _ => fun
  | [d1, d2, d3] => { results := [.lit (.bool false)], args := [d1, d2, d3] }
  | _ => none }
def FuzzySubstringMatchesWrongFalsely : Prop := fuzzySubstringMatchesRow.holds Try.pinned (OpenSpec.ofChange fuzzySubstringMatchesWrong)

/-- 'glossatorkeep4.FuzzySuffixMonotonic': WHATEVER THE INPUT: true; the input reads as it did. -/
def fuzzySuffixMonotonicSpec : ChangeSpec := { name := "fuzzySuffixMonotonic", fn := fun _ => fun
  | [d1, d2, d3] => { results := [.lit (.bool true)], args := [d1, d2, d3] }
  | _ => none }
def fuzzySuffixMonotonicRow : OpenClaim := { program := "ytldhhomeifjbeaa", sum := "9d9e88f7eddf3890744605ff6bab944274beb69c2e8319f47dd9d48545a02776", func := "glossator/glossatorkeep4.FuzzySuffixMonotonic", spec := "fuzzySuffixMonotonic", inPlace := ["internal/bytealg.abigen_runtime_cmpstring"], unfollowed := true, recurses := true, apart := false }
def FuzzySuffixMonotonicSaid : Prop := fuzzySuffixMonotonicRow.holds Try.pinned (OpenSpec.ofChange fuzzySuffixMonotonicSpec)

/-- ITS FALSE NEIGHBOUR: 'it returns false'. Refute it at one input. -/
def fuzzySuffixMonotonicWrong : ChangeSpec := { name := "fuzzySuffixMonotonic", fn := fun _ => fun
  | [d1, d2, d3] => { results := [.lit (.bool false)], args := [d1, d2, d3] }
  | _ => none }
def FuzzySuffixMonotonicWrongFalsely : Prop := fuzzySuffixMonotonicRow.holds Try.pinned (OpenSpec.ofChange fuzzySuffixMonotonicWrong)

/-- 'glossatorkeep4.FuzzyEmptyPattern': WHATEVER THE INPUT: true; the input reads as it did. -/
def fuzzyEmptyPatternSpec : ChangeSpec := { name := "fuzzyEmptyPattern", fn := fun _ => fun
  | [d] => { results := [.lit (.bool true)], args := [d] }
  | _ => none }
def fuzzyEmptyPatternRow : OpenClaim := { program := "ytldhhomeifjbeaa", sum := "9d9e88f7eddf3890744605ff6bab944274beb69c2e8319f47dd9d48545a02776", func := "glossator/glossatorkeep4.FuzzyEmptyPattern", spec := "fuzzyEmptyPattern", inPlace := ["internal/bytealg.abigen_runtime_cmpstring"], unfollowed := true, recurses := true, apart := false }
def FuzzyEmptyPatternSaid : Prop := fuzzyEmptyPatternRow.holds Try.pinned (OpenSpec.ofChange fuzzyEmptyPatternSpec)

/-- ITS FALSE NEIGHBOUR: 'it returns false'. Refute it at one input. -/
def fuzzyEmptyPatternWrong : ChangeSpec := { name := "fuzzyEmptyPattern", fn := fun _ => fun
  | [d] => { results := [.lit (.bool false)], args := [d] }
  | _ => none }
def FuzzyEmptyPatternWrongFalsely : Prop := fuzzyEmptyPatternRow.holds Try.pinned (OpenSpec.ofChange fuzzyEmptyPatternWrong)

/- THE SECOND FORM. 'bulk': how many values and letters a reading holds, each counted each time it is reached (what is shared counts as often as it is met; a slice's spare places count too). A statement '..UptoSaid' is the law's where the arguments, and the package variables that the reading takes, are together of bulk at most 1048576: NARROWER than '..Said'. Prove '..Said' where nothing that the law and all that it calls make is longer than what came in: it says more and counts as full. Else prove '..UptoSaid'. A law counts once. -/
mutual
def uptoBulk {H : Type} : DataW H → Nat
  | .lit (.string bytes) => bytes.length + 1
  | .lit _ => 1
  | .nil => 1
  | .ptr d => uptoBulk d + 1
  | .slice elems spare => uptoBulkAll elems + uptoBulkAll spare + 1
  | .agg parts => uptoBulkAll parts + 1
  | .iface _ d => uptoBulk d + 1
  | .map entries => uptoBulkEntries entries + 1
  | .held _ => 1
def uptoBulkAll {H : Type} : List (DataW H) → Nat
  | [] => 0
  | d :: r => uptoBulk d + uptoBulkAll r
def uptoBulkEntries {H : Type} : List (Lit × DataW H) → Nat
  | [] => 0
  | x :: r => uptoBulkEntry x + uptoBulkEntries r
def uptoBulkEntry {H : Type} : Lit × DataW H → Nat
  | (.string bytes, d) => bytes.length + uptoBulk d + 1
  | (_, d) => uptoBulk d + 1
 end
def uptoSmall : (H : Type) → List (DataW H) → Bool := fun _ ds => decide (uptoBulkAll ds ≤ 1048576)
def OpenSpec.upto (s : _root_.Go.ChangeSpec) : _root_.Go.OpenSpec := { _root_.Go.OpenSpec.ofChange s with cond := some uptoSmall }

/-- 'glossatorkeep4.FuzzyScoreOptimal', WHERE WHAT IT READS IS OF BULK AT MOST 1048576: true; the input reads as it did. -/
def fuzzyScoreOptimalUptoRow : OpenClaim := { program := "ytldhhomeifjbeaa", sum := "9d9e88f7eddf3890744605ff6bab944274beb69c2e8319f47dd9d48545a02776", func := "glossator/glossatorkeep4.FuzzyScoreOptimal", spec := "fuzzyScoreOptimal", inPlace := ["internal/bytealg.abigen_runtime_cmpstring"], unfollowed := true, recurses := true, apart := false, narrowed := true }
def FuzzyScoreOptimalUptoSaid : Prop := fuzzyScoreOptimalUptoRow.holds Try.pinned (OpenSpec.upto fuzzyScoreOptimalSpec)

/-- 'glossatorkeep4.FuzzySubstringMatches', WHERE WHAT IT READS IS OF BULK AT MOST 1048576: true; the input reads as it did. -/
def fuzzySubstringMatchesUptoRow : OpenClaim := { program := "ytldhhomeifjbeaa", sum := "9d9e88f7eddf3890744605ff6bab944274beb69c2e8319f47dd9d48545a02776", func := "glossator/glossatorkeep4.FuzzySubstringMatches", spec := "fuzzySubstringMatches", inPlace := ["internal/bytealg.abigen_runtime_cmpstring"], unfollowed := true, recurses := true, apart := false, narrowed := true }
def FuzzySubstringMatchesUptoSaid : Prop := fuzzySubstringMatchesUptoRow.holds Try.pinned (OpenSpec.upto fuzzySubstringMatchesSpec)

/-- 'glossatorkeep4.FuzzySuffixMonotonic', WHERE WHAT IT READS IS OF BULK AT MOST 1048576: true; the input reads as it did. -/
def fuzzySuffixMonotonicUptoRow : OpenClaim := { program := "ytldhhomeifjbeaa", sum := "9d9e88f7eddf3890744605ff6bab944274beb69c2e8319f47dd9d48545a02776", func := "glossator/glossatorkeep4.FuzzySuffixMonotonic", spec := "fuzzySuffixMonotonic", inPlace := ["internal/bytealg.abigen_runtime_cmpstring"], unfollowed := true, recurses := true, apart := false, narrowed := true }
def FuzzySuffixMonotonicUptoSaid : Prop := fuzzySuffixMonotonicUptoRow.holds Try.pinned (OpenSpec.upto fuzzySuffixMonotonicSpec)

/-- 'glossatorkeep4.FuzzyEmptyPattern', WHERE WHAT IT READS IS OF BULK AT MOST 1048576: true; the input reads as it did. -/
def fuzzyEmptyPatternUptoRow : OpenClaim := { program := "ytldhhomeifjbeaa", sum := "9d9e88f7eddf3890744605ff6bab944274beb69c2e8319f47dd9d48545a02776", func := "glossator/glossatorkeep4.FuzzyEmptyPattern", spec := "fuzzyEmptyPattern", inPlace := ["internal/bytealg.abigen_runtime_cmpstring"], unfollowed := true, recurses := true, apart := false, narrowed := true }
def FuzzyEmptyPatternUptoSaid : Prop := fuzzyEmptyPatternUptoRow.holds Try.pinned (OpenSpec.upto fuzzyEmptyPatternSpec)

end Rows
end Go.Proofs.Ytldhhomeifjbeaa
