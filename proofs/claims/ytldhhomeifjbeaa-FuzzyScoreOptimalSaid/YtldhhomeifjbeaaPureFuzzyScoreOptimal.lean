/- FuzzyScoreOptimal: the plain law. No walk. -/
import Derived.Test.YtldhhomeifjbeaaAlignP
namespace Go.Proofs.Ytldhhomeifjbeaa.Pure
open Go.RowKit Go.Proofs.Ytldhhomeifjbeaa.PA Go.Proofs.YtldhhomeifjbeaaW.PrintWords Go.Proofs.YtldhhomeifjbeaaW.PrintLast
set_option linter.unusedVariables false
set_option linter.unusedSimpArgs false
theorem FuzzyScoreOptimal : glossatorkeep4_FuzzyScoreOptimal.Pure := by
  intro a0 a1 l2 w0 w1 w2 w3 w4
  obtain ⟨K, hK⟩ : ∃ K : Nat, 1000 ≤ K := ⟨1000, Nat.le_refl _⟩
  refine ⟨K + 1, ?_⟩
  obtain ⟨s, offs, ok, hf, hs⟩ := score_said a0 a1 (K + 1) (by omega)
  have hex := examples_true (K + 1) (by omega)
  have hexK := examples_true K (by omega)
  unfold glossatorkeep4_FuzzyScoreOptimal.f
  rw [hex]
  simp only [Option.bind_some, if_true]
  rw [hf]
  simp only [Option.bind_some]
  rcases hs with ⟨rfl, rfl, rfl, _⟩ | ⟨rfl, hp, hn, o, rfl, hsa, hsc, hmax⟩
  · rfl
  · rw [if_pos rfl]
    obtain ⟨b, hb1, hb2⟩ := valid_said a0 a1 (o.map (fun x : Nat => (x : Int))) hp w1 (K + 1) (by omega)
    obtain rfl : b = true := hb2.2 ⟨o, rfl, hsa⟩
    rw [hb1]
    simp only [Option.bind_some, if_true]
    rw [asc_said a0 a1 o hp w1 hsa (K + 1) (by omega)]
    simp only [Option.bind_some]
    rw [← hsc]
    have hne : (s != s) = false := by simp
    rw [hne]
    simp only [glossatorkeep4_FuzzyScoreOptimal.j0]
    rw [if_neg (by simp), hexK]
    simp only [Option.bind_some, if_true]
    obtain ⟨c, hc1, hc2⟩ := valid_said a0 a1 l2 hp w1 K (by omega)
    rw [hc1]
    simp only [Option.bind_some]
    cases c with
    | false => rfl
    | true =>
      obtain ⟨o', rfl, ho'⟩ := hc2.1 rfl
      rw [if_pos rfl, asc_said a0 a1 o' hp w1 ho' K (by omega)]
      simp only [Option.bind_some]
      rw [decide_eq_true (hmax o' ho')]
end Go.Proofs.Ytldhhomeifjbeaa.Pure
