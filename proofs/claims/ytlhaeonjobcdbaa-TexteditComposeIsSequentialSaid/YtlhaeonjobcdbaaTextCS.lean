/- TexteditComposeIsSequential: a composed list gives what both lists give one after the other. Conditions: those of an argument's size alone. -/
import Derived.Test.YtlhaeonjobcdbaaTextPure3
import Derived.Test.YtlhaeonjobcdbaaPAx17
namespace Go.Proofs.Ytlhaeonjobcdbaa.PA
open Go.RowKit Go.Proofs.YtlhaeonjobcdbaaW.PrintWords Go.Proofs.YtlhaeonjobcdbaaW.PrintLast
set_option linter.unusedVariables false

theorem midB_composed {src : ByteArray} {l1 l2 : List S43} (h : composeOk src l1 l2 = true) : midB src (composeC src l1 l2) = midB (midB src l1) l2 := by
  refine bs_inj ?_
  rw [bs_midB, bs_midB (midB src l1) l2]
  exact composeC_apply h
theorem TexteditComposeIsSequential_pure (src : ByteArray) (l1 l2 : List S43) (w0 : src.size ≤ 140737488351232) (hl0 : l1.length * 32 ≤ 140737488351232) (hs0 : ∀ y ∈ l1, (Lit.int .i64 y.f0).wf = true ∧ (Lit.int .i64 y.f1).wf = true ∧ y.f2.size ≤ 140737488351232)
    (hl1 : l2.length * 32 ≤ 140737488351232) (hs1 : ∀ y ∈ l2, (Lit.int .i64 y.f0).wf = true ∧ (Lit.int .i64 y.f1).wf = true ∧ y.f2.size ≤ 140737488351232) :
    ∃ k, glossatorkeep4_TexteditComposeIsSequential.f k src l1 l2 = some true := by
  have hs1' : ∀ e ∈ l1, e.f2.size ≤ 140737488351232 := fun e he => (hs0 e he).2.2
  have hs2' : ∀ e ∈ l2, e.f2.size ≤ 140737488351232 := fun e he => (hs1 e he).2.2
  obtain ⟨K0, h0⟩ := tex_ev
  obtain ⟨K1, h1⟩ := Compose_ev src l1 l2 hs1' hs2'
  dsimp only at h0 h1
  by_cases g : (composeS src l1 l2).2 = 0
  · have hC := composed_of hs1' hs2' g
    have hsz := composeC_size hC.ok
    obtain ⟨K2, h2⟩ := Apply_ev src l1 hs1'
    obtain ⟨K3, h3⟩ := Apply_ev (midB src l1) l2 hs2'
    obtain ⟨K4, h4⟩ := Apply_ev src (composeC src l1 l2) hsz
    dsimp only at h2 h3 h4
    rw [applyS_valid hs1' hC.v1] at h2
    rw [applyS_valid hs2' hC.v2] at h3
    rw [applyS_valid hsz (composeC_valid hC), midB_composed hC.ok] at h4
    refine ⟨K0 + K1 + K2 + K3 + K4, ?_⟩
    unfold glossatorkeep4_TexteditComposeIsSequential.f
    rw [h0 _ (by omega), h1 _ (by omega)]
    simp only [Option.bind_some, if_true]
    rw [if_pos g, h2 _ (by omega), hC.out, h4 _ (by omega)]
    simp only [Option.bind_some, if_true]
    rw [h3 _ (by omega)]
    simp
  · refine ⟨K0 + K1, ?_⟩
    unfold glossatorkeep4_TexteditComposeIsSequential.f
    rw [h0 _ (by omega), h1 _ (by omega)]
    simp only [Option.bind_some, if_true]
    rw [if_neg g, composeS_err g]
    rfl
end Go.Proofs.Ytlhaeonjobcdbaa.PA
