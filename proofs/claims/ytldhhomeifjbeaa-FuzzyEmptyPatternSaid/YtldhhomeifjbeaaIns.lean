/- slices.insertionSortCmpFunc at ints: the shelf's contract, laid. -/
import Derived.Shelf.SlSortCmp.Insertion1
import Derived.Test.YtldhhomeifjbeaaSuffixP
namespace Go.Proofs.Ytldhhomeifjbeaa.PA
open Go.RowKit Go.Shelf Go.Sort
set_option linter.unusedVariables false
set_option linter.unusedSimpArgs false
def ren20 : Go.Shelf.Ren := ⟨fun | 20 => 32 | n => n, fun | 24 => 3 | 25 => 43 | n => n, fun n => n⟩
theorem lays20 : Go.Proofs.SlLaysF.n20 Try.prog ren20 := {
  mixed := by kernel_rfl
  f20 := ⟨"slices.insertionSortCmpFunc[int]", by kernel_rfl, Try.func32.trans (congrArg some (by kernel_rfl))⟩
  t0 := Try.underlying0
  a0 := Try.isAgg0
  z0 := Try.sizeOf0
  v0 := Try.zeroValue0
  t3 := Try.underlying3
  a3 := Try.isAgg3
  z3 := Try.sizeOf3
  v3 := Try.zeroValue3
  t4 := Try.underlying4
  a4 := Try.isAgg4
  z4 := Try.sizeOf4
  v4 := Try.zeroValue4
  t22 := Try.underlying22
  a22 := Try.isAgg22
  z22 := Try.sizeOf22
  v22 := Try.zeroValue22
  a24 := Try.isAgg3
  z24 := Try.sizeOf3
  t25 := Try.underlying43
  a25 := Try.isAgg43
  z25 := Try.sizeOf43
  v25 := Try.zeroValue43 }
end Go.Proofs.Ytldhhomeifjbeaa.PA
