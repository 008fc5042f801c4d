/- What textedit.Apply and DeletesByte answer, and where a kept byte comes to lie: in plain Lean. Conditions: an argument's sizes. -/
import Derived.Test.YtlhaeonjobcdbaaAnchorPure2
import Derived.Test.YtlhaeonjobcdbaaExtApply
namespace Go.Proofs.Ytlhaeonjobcdbaa.PA
open Go.RowKit Go.Proofs.YtlhaeonjobcdbaaW.PrintWords Go.Proofs.YtlhaeonjobcdbaaW.PrintLast
set_option linter.unusedVariables false

/-- Apply -/
def applyS (src : ByteArray) (l : List S43) : ByteArray × Int := if vdS (src.size : Int) l = 0 then (⟨(app id (bs src) 0 l).toArray⟩, 0) else (⟨#[]⟩, vdS (src.size : Int) l)
theorem Apply_ev (src : ByteArray) (l : List S43) (hs : ∀ e ∈ l, e.f2.size ≤ 140737488351232) : Ev (fun k => textedit_Apply.f k src l) (applyS src l) := by
  unfold textedit_Apply.f
  refine Ev.bind (f := fun k t => if t = 0 then (if applyOk src l = true then some ((⟨(app id (bs src) 0 l).toArray⟩ : ByteArray), (0 : Int)) else none) else some ((⟨#[]⟩ : ByteArray), t)) (Validate_ev src l) ?_
  unfold applyS
  by_cases h : vdS (src.size : Int) l = 0
  · have hv := (vdS_zero (by omega) hs).1 h
    simp only [if_pos h]
    rw [if_pos (applyOk_iff.2 ⟨hv.ok, hv.all, hv.src⟩)]
    exact Ev.now _
  · simp only [if_neg h]
    exact Ev.now _
theorem applyS_zero {src : ByteArray} {l : List S43} (hs : ∀ e ∈ l, e.f2.size ≤ 140737488351232) (h : (applyS src l).2 = 0) : Valid (src.size : Int) l ∧ (applyS src l).1 = ⟨(app id (bs src) 0 l).toArray⟩ := by
  unfold applyS at h ⊢
  by_cases hv : vdS (src.size : Int) l = 0
  · rw [if_pos hv]
    exact ⟨(vdS_zero (by omega) hs).1 hv, rfl⟩
  · rw [if_neg hv] at h
    exact absurd h hv

end Go.Proofs.Ytlhaeonjobcdbaa.PA
