/-
  No cell of these rows narrows 'for every input' (looked for: loops, veiled, ifaces, maps, wideKeys, modest, calm, conditions, laid).
  DERIVED. THE GIVEN ROWS OF THIS SEAT. 6 by the template 'for every input the law returns true; each argument reads behind the call as it read before'; 0 by the template 'total and deterministic' (their statements: YtalhieinohkihaaTotals.lean).
  GIVEN WITH THE SEED: the statements are not yours to turn. If you find one false, say at which input.
  Laid BY PROGRAM, IN A SANDBOX (cutbox-rows.mjs): the forced cells as the released guide's own fill.sh prints them over the translation 34332b9199fa052a… (all of the seat's roots in one cut). By AI agents, Wed Nov 11 2026. No macro, syntax, notation, axiom, sorry.
-/
import Derived.Test.YtalhieinohkihaaChecked
import GoSem.Claim
import GoSem.ClaimJoined
import GoSem.ClaimMapViews
import Derived.JoinedTies
import Derived.KernelRfl
namespace Go.Proofs.Ytalhieinohkihaa
/- THE CELL 'sum', in the pinned program and in every row, IS THE sha256 OF THE DUMP (.gsa) THAT YtalhieinohkihaaProg.lean LOADS. Nothing in Lean hashes anything: it is a label: what it is worth is what the hold of that sum in a sandbox is worth. -/
noncomputable def Try.pinned : Pinned := { name := "ytalhieinohkihaa", sum := "34332b9199fa052a0eb8e6e897638ccb8172b5660c24d37db464d2c51a76136b", checked := Try.checked }
namespace Rows
def none {H : Type} : Left H := { results := [], args := [] }

/-- 'glossatorkeep4.AnchorMapMonotonic': WHATEVER THE INPUT: true; the input reads as it did. -/
def anchorMapMonotonicSpec : ChangeSpec := { name := "anchorMapMonotonic", fn := fun _ => fun
  | [d1, d2, d3, d4] => { results := [.lit (.bool true)], args := [d1, d2, d3, d4] }
  | _ => none }
def anchorMapMonotonicRow : OpenClaim := { program := "ytalhieinohkihaa", sum := "34332b9199fa052a0eb8e6e897638ccb8172b5660c24d37db464d2c51a76136b", func := "glossator/glossatorkeep4.AnchorMapMonotonic", spec := "anchorMapMonotonic", apart := false }
def AnchorMapMonotonicSaid : Prop := anchorMapMonotonicRow.holds Try.pinned (OpenSpec.ofChange anchorMapMonotonicSpec)

/-- ITS FALSE NEIGHBOUR: 'it returns false'. Refute it at one input. -/
def anchorMapMonotonicWrong : ChangeSpec := { name := "anchorMapMonotonic", fn := fun _ => fun
  | [d1, d2, d3, d4] => { results := [.lit (.bool false)], args := [d1, d2, d3, d4] }
  | _ => none }
def AnchorMapMonotonicWrongFalsely : Prop := anchorMapMonotonicRow.holds Try.pinned (OpenSpec.ofChange anchorMapMonotonicWrong)

/-- 'glossatorkeep4.AnchorInvertRoundTrip': WHATEVER THE INPUT: true; the input reads as it did. -/
def anchorInvertRoundTripSpec : ChangeSpec := { name := "anchorInvertRoundTrip", fn := fun _ => fun
  | [d1, d2, d3, d4] => { results := [.lit (.bool true)], args := [d1, d2, d3, d4] }
  | _ => none }
def anchorInvertRoundTripRow : OpenClaim := { program := "ytalhieinohkihaa", sum := "34332b9199fa052a0eb8e6e897638ccb8172b5660c24d37db464d2c51a76136b", func := "glossator/glossatorkeep4.AnchorInvertRoundTrip", spec := "anchorInvertRoundTrip", apart := false }
def AnchorInvertRoundTripSaid : Prop := anchorInvertRoundTripRow.holds Try.pinned (OpenSpec.ofChange anchorInvertRoundTripSpec)

/-- ITS FALSE NEIGHBOUR: 'it returns false'. Refute it at one input. -/
def anchorInvertRoundTripWrong : ChangeSpec := { name := "anchorInvertRoundTrip", fn := fun _ => fun
  | [d1, d2, d3, d4] => { results := [.lit (.bool false)], args := [d1, d2, d3, d4] }
  | _ => none }
def AnchorInvertRoundTripWrongFalsely : Prop := anchorInvertRoundTripRow.holds Try.pinned (OpenSpec.ofChange anchorInvertRoundTripWrong)

/-- 'glossatorkeep4.AnchorRetainedByte': WHATEVER THE INPUT: true; the input reads as it did. -/
def anchorRetainedByteSpec : ChangeSpec := { name := "anchorRetainedByte", fn := fun _ => fun
  | [d1, d2, d3] => { results := [.lit (.bool true)], args := [d1, d2, d3] }
  | _ => none }
def anchorRetainedByteRow : OpenClaim := { program := "ytalhieinohkihaa", sum := "34332b9199fa052a0eb8e6e897638ccb8172b5660c24d37db464d2c51a76136b", func := "glossator/glossatorkeep4.AnchorRetainedByte", spec := "anchorRetainedByte", inPlace := ["internal/abi.NoEscape"], apart := false }
def AnchorRetainedByteSaid : Prop := anchorRetainedByteRow.holds Try.pinned (OpenSpec.ofChange anchorRetainedByteSpec)

/-- ITS FALSE NEIGHBOUR: 'it returns false'. Refute it at one input. -/
def anchorRetainedByteWrong : ChangeSpec := { name := "anchorRetainedByte", fn := fun _ => fun
  | [d1, d2, d3] => { results := [.lit (.bool false)], args := [d1, d2, d3] }
  | _ => none }
def AnchorRetainedByteWrongFalsely : Prop := anchorRetainedByteRow.holds Try.pinned (OpenSpec.ofChange anchorRetainedByteWrong)

/-- 'glossatorkeep4.AnchorComposeAgrees': WHATEVER THE INPUT: true; the input reads as it did. -/
def anchorComposeAgreesSpec : ChangeSpec := { name := "anchorComposeAgrees", fn := fun _ => fun
  | [d1, d2, d3, d4] => { results := [.lit (.bool true)], args := [d1, d2, d3, d4] }
  | _ => none }
def anchorComposeAgreesRow : OpenClaim := { program := "ytalhieinohkihaa", sum := "34332b9199fa052a0eb8e6e897638ccb8172b5660c24d37db464d2c51a76136b", func := "glossator/glossatorkeep4.AnchorComposeAgrees", spec := "anchorComposeAgrees", inPlace := ["internal/abi.NoEscape"], unfollowed := true, recurses := true, apart := false }
def AnchorComposeAgreesSaid : Prop := anchorComposeAgreesRow.holds Try.pinned (OpenSpec.ofChange anchorComposeAgreesSpec)

/-- ITS FALSE NEIGHBOUR: 'it returns false'. Refute it at one input. -/
def anchorComposeAgreesWrong : ChangeSpec := { name := "anchorComposeAgrees", fn := fun _ => fun
  | [d1, d2, d3, d4] => { results := [.lit (.bool false)], args := [d1, d2, d3, d4] }
  | _ => none }
def AnchorComposeAgreesWrongFalsely : Prop := anchorComposeAgreesRow.holds Try.pinned (OpenSpec.ofChange anchorComposeAgreesWrong)

/-- 'glossatorkeep4.TexteditInvertRoundTrip': WHATEVER THE INPUT: true; the input reads as it did. -/
def texteditInvertRoundTripSpec : ChangeSpec := { name := "texteditInvertRoundTrip", fn := fun _ => fun
  | [d1, d2] => { results := [.lit (.bool true)], args := [d1, d2] }
  | _ => none }
def texteditInvertRoundTripRow : OpenClaim := { program := "ytalhieinohkihaa", sum := "34332b9199fa052a0eb8e6e897638ccb8172b5660c24d37db464d2c51a76136b", func := "glossator/glossatorkeep4.TexteditInvertRoundTrip", spec := "texteditInvertRoundTrip", inPlace := ["internal/abi.NoEscape"], unfollowed := true, recurses := true, apart := false }
def TexteditInvertRoundTripSaid : Prop := texteditInvertRoundTripRow.holds Try.pinned (OpenSpec.ofChange texteditInvertRoundTripSpec)

/-- ITS FALSE NEIGHBOUR: 'it returns false'. Refute it at one input. -/
def texteditInvertRoundTripWrong : ChangeSpec := { name := "texteditInvertRoundTrip", fn := fun _ => fun
  | [d1, d2] => { results := [.lit (.bool false)], args := [d1, d2] }
  | _ => none }
def TexteditInvertRoundTripWrongFalsely : Prop := texteditInvertRoundTripRow.holds Try.pinned (OpenSpec.ofChange texteditInvertRoundTripWrong)

/-- 'glossatorkeep4.TexteditComposeIsSequential': WHATEVER THE INPUT: true; the input reads as it did. -/
def texteditComposeIsSequentialSpec : ChangeSpec := { name := "texteditComposeIsSequential", fn := fun _ => fun
  | [d1, d2, d3] => { results := [.lit (.bool true)], args := [d1, d2, d3] }
  | _ => none }
def texteditComposeIsSequentialRow : OpenClaim := { program := "ytalhieinohkihaa", sum := "34332b9199fa052a0eb8e6e897638ccb8172b5660c24d37db464d2c51a76136b", func := "glossator/glossatorkeep4.TexteditComposeIsSequential", spec := "texteditComposeIsSequential", inPlace := ["internal/abi.NoEscape"], unfollowed := true, recurses := true, apart := false }
def TexteditComposeIsSequentialSaid : Prop := texteditComposeIsSequentialRow.holds Try.pinned (OpenSpec.ofChange texteditComposeIsSequentialSpec)

/-- ITS FALSE NEIGHBOUR: 'it returns false'. Refute it at one input. -/
def texteditComposeIsSequentialWrong : ChangeSpec := { name := "texteditComposeIsSequential", fn := fun _ => fun
  | [d1, d2, d3] => { results := [.lit (.bool false)], args := [d1, d2, d3] }
  | _ => none }
def TexteditComposeIsSequentialWrongFalsely : Prop := texteditComposeIsSequentialRow.holds Try.pinned (OpenSpec.ofChange texteditComposeIsSequentialWrong)

/- THE SECOND FORM. 'bulk': how many values and letters a reading holds, each counted each time it is reached (what is shared counts as often as it is met; a slice's spare places count too). A statement '..UptoSaid' is the law's where the arguments, and the package variables that the reading takes, are together of bulk at most 1048576: NARROWER than '..Said'. Prove '..Said' where nothing that the law and all that it calls make is longer than what came in: it says more and counts as full. Else prove '..UptoSaid'. A law counts once. -/
mutual
def uptoBulk {H : Type} : DataW H → Nat
  | .lit (.string bytes) => bytes.length + 1
  | .lit _ => 1
  | .nil => 1
  | .ptr d => uptoBulk d + 1
  | .slice elems spare => uptoBulkAll elems + uptoBulkAll spare + 1
  | .agg parts => uptoBulkAll parts + 1
  | .iface _ d => uptoBulk d + 1
  | .map entries => uptoBulkEntries entries + 1
  | .held _ => 1
def uptoBulkAll {H : Type} : List (DataW H) → Nat
  | [] => 0
  | d :: r => uptoBulk d + uptoBulkAll r
def uptoBulkEntries {H : Type} : List (Lit × DataW H) → Nat
  | [] => 0
  | x :: r => uptoBulkEntry x + uptoBulkEntries r
def uptoBulkEntry {H : Type} : Lit × DataW H → Nat
  | (.string bytes, d) => bytes.length + uptoBulk d + 1
  | (_, d) => uptoBulk d + 1
 end
def uptoSmall : (H : Type) → List (DataW H) → Bool := fun _ ds => decide (uptoBulkAll ds ≤ 1048576)
def OpenSpec.upto (s : _root_.Go.ChangeSpec) : _root_.Go.OpenSpec := { _root_.Go.OpenSpec.ofChange s with cond := some uptoSmall }

/-- 'glossatorkeep4.AnchorMapMonotonic', WHERE WHAT IT READS IS OF BULK AT MOST 1048576: true; the input reads as it did. -/
def anchorMapMonotonicUptoRow : OpenClaim := { program := "ytalhieinohkihaa", sum := "34332b9199fa052a0eb8e6e897638ccb8172b5660c24d37db464d2c51a76136b", func := "glossator/glossatorkeep4.AnchorMapMonotonic", spec := "anchorMapMonotonic", apart := false, narrowed := true }
def AnchorMapMonotonicUptoSaid : Prop := anchorMapMonotonicUptoRow.holds Try.pinned (OpenSpec.upto anchorMapMonotonicSpec)

/-- 'glossatorkeep4.AnchorInvertRoundTrip', WHERE WHAT IT READS IS OF BULK AT MOST 1048576: true; the input reads as it did. -/
def anchorInvertRoundTripUptoRow : OpenClaim := { program := "ytalhieinohkihaa", sum := "34332b9199fa052a0eb8e6e897638ccb8172b5660c24d37db464d2c51a76136b", func := "glossator/glossatorkeep4.AnchorInvertRoundTrip", spec := "anchorInvertRoundTrip", apart := false, narrowed := true }
def AnchorInvertRoundTripUptoSaid : Prop := anchorInvertRoundTripUptoRow.holds Try.pinned (OpenSpec.upto anchorInvertRoundTripSpec)

/-- 'glossatorkeep4.AnchorRetainedByte', WHERE WHAT IT READS IS OF BULK AT MOST 1048576: true; the input reads as it did. -/
def anchorRetainedByteUptoRow : OpenClaim := { program := "ytalhieinohkihaa", sum := "34332b9199fa052a0eb8e6e897638ccb8172b5660c24d37db464d2c51a76136b", func := "glossator/glossatorkeep4.AnchorRetainedByte", spec := "anchorRetainedByte", inPlace := ["internal/abi.NoEscape"], apart := false, narrowed := true }
def AnchorRetainedByteUptoSaid : Prop := anchorRetainedByteUptoRow.holds Try.pinned (OpenSpec.upto anchorRetainedByteSpec)

/-- 'glossatorkeep4.AnchorComposeAgrees', WHERE WHAT IT READS IS OF BULK AT MOST 1048576: true; the input reads as it did. -/
def anchorComposeAgreesUptoRow : OpenClaim := { program := "ytalhieinohkihaa", sum := "34332b9199fa052a0eb8e6e897638ccb8172b5660c24d37db464d2c51a76136b", func := "glossator/glossatorkeep4.AnchorComposeAgrees", spec := "anchorComposeAgrees", inPlace := ["internal/abi.NoEscape"], unfollowed := true, recurses := true, apart := false, narrowed := true }
def AnchorComposeAgreesUptoSaid : Prop := anchorComposeAgreesUptoRow.holds Try.pinned (OpenSpec.upto anchorComposeAgreesSpec)

/-- 'glossatorkeep4.TexteditInvertRoundTrip', WHERE WHAT IT READS IS OF BULK AT MOST 1048576: true; the input reads as it did. -/
def texteditInvertRoundTripUptoRow : OpenClaim := { program := "ytalhieinohkihaa", sum := "34332b9199fa052a0eb8e6e897638ccb8172b5660c24d37db464d2c51a76136b", func := "glossator/glossatorkeep4.TexteditInvertRoundTrip", spec := "texteditInvertRoundTrip", inPlace := ["internal/abi.NoEscape"], unfollowed := true, recurses := true, apart := false, narrowed := true }
def TexteditInvertRoundTripUptoSaid : Prop := texteditInvertRoundTripUptoRow.holds Try.pinned (OpenSpec.upto texteditInvertRoundTripSpec)

/-- 'glossatorkeep4.TexteditComposeIsSequential', WHERE WHAT IT READS IS OF BULK AT MOST 1048576: true; the input reads as it did. -/
def texteditComposeIsSequentialUptoRow : OpenClaim := { program := "ytalhieinohkihaa", sum := "34332b9199fa052a0eb8e6e897638ccb8172b5660c24d37db464d2c51a76136b", func := "glossator/glossatorkeep4.TexteditComposeIsSequential", spec := "texteditComposeIsSequential", inPlace := ["internal/abi.NoEscape"], unfollowed := true, recurses := true, apart := false, narrowed := true }
def TexteditComposeIsSequentialUptoSaid : Prop := texteditComposeIsSequentialUptoRow.holds Try.pinned (OpenSpec.upto texteditComposeIsSequentialSpec)

end Rows
end Go.Proofs.Ytalhieinohkihaa
