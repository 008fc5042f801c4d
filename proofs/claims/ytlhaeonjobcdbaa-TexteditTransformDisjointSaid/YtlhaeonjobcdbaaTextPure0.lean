/- Small lemmas on lists of edits that are read by index, and on a sum that does not wrap. -/
import Derived.Test.YtlhaeonjobcdbaaPAx0
namespace Go.Proofs.Ytlhaeonjobcdbaa.PA
open Go.RowKit Go.Proofs.YtlhaeonjobcdbaaW.PrintWords Go.Proofs.YtlhaeonjobcdbaaW.PrintLast
set_option linter.unusedVariables false

theorem w64 {x : Int} (h0 : -9223372036854775808 ≤ x) (h1 : x ≤ 9223372036854775807) : wrap64 x = x := by unfold wrap64; omega
theorem rd_mid (pre suf : List S43) (e : S43) : rd_T43 (pre ++ e :: suf) (pre.length : Int) = e := by
  unfold rd_T43
  rw [Int.toNat_natCast, List.getD_eq_getElem?_getD, List.getElem?_append_right (Nat.le_refl _)]
  simp
theorem len_mid (pre suf : List S43) (e : S43) : (pre.length : Int) < ((pre ++ e :: suf).length : Int) := by
  rw [List.length_append, List.length_cons]; omega
theorem len_snoc (pre suf : List S43) (e : S43) : ((pre ++ [e]).length : Int) = (pre.length : Int) + 1 := by
  rw [List.length_append]; simp
theorem app_snoc (pre suf : List S43) (e : S43) : pre ++ e :: suf = (pre ++ [e]) ++ suf := by simp

end Go.Proofs.Ytlhaeonjobcdbaa.PA
