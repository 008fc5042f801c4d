/- TexteditTransformConverges: both orders give the same text. Conditions: those of an argument's size alone. -/
import Derived.Test.YtlhaeonjobcdbaaTransPure
import Derived.Test.YtlhaeonjobcdbaaPAx19
namespace Go.Proofs.Ytlhaeonjobcdbaa.PA
open Go.RowKit Go.Proofs.YtlhaeonjobcdbaaW.PrintWords Go.Proofs.YtlhaeonjobcdbaaW.PrintLast
set_option linter.unusedVariables false

theorem TexteditTransformConverges_pure (src : ByteArray) (l1 l2 : List S43) (w0 : src.size ≤ 140737488351232) (hl0 : l1.length * 32 ≤ 140737488351232) (hs0 : ∀ y ∈ l1, (Lit.int .i64 y.f0).wf = true ∧ (Lit.int .i64 y.f1).wf = true ∧ y.f2.size ≤ 140737488351232)
    (hl1 : l2.length * 32 ≤ 140737488351232) (hs1 : ∀ y ∈ l2, (Lit.int .i64 y.f0).wf = true ∧ (Lit.int .i64 y.f1).wf = true ∧ y.f2.size ≤ 140737488351232) :
    ∃ k, glossatorkeep4_TexteditTransformConverges.f k src l1 l2 = some true := by
  have z1 : ∀ e ∈ l1, e.f2.size ≤ 140737488351232 := fun e he => (hs0 e he).2.2
  have z2 : ∀ e ∈ l2, e.f2.size ≤ 140737488351232 := fun e he => (hs1 e he).2.2
  obtain ⟨K0, h0⟩ := tex_ev
  obtain ⟨K1, h1⟩ := Transform_ev src l1 l2 z1 z2
  dsimp only at h0 h1
  by_cases g : (transS src l1 l2).2.2 = 0
  · have hT := (trans_of z1 z2).1 g
    obtain ⟨K2, h2⟩ := Apply_ev src l1 z1
    obtain ⟨K3, h3⟩ := Apply_ev src l2 z2
    obtain ⟨K4, h4⟩ := Apply_ev (midB src l1) _ hT.sl
    obtain ⟨K5, h5⟩ := Apply_ev (midB src l2) _ hT.sr
    dsimp only at h2 h3 h4 h5
    rw [applyS_valid z1 hT.v1] at h2
    rw [applyS_valid z2 hT.v2] at h3
    rw [applyS_valid hT.sl hT.vl] at h4
    rw [applyS_valid hT.sr hT.vr, bs_inj (hT.br.trans hT.bl.symm)] at h5
    rw [hT.out] at h1
    refine ⟨K0 + K1 + K2 + K3 + K4 + K5, ?_⟩
    unfold glossatorkeep4_TexteditTransformConverges.f
    rw [h0 _ (by omega), h1 _ (by omega)]
    simp only [Option.bind_some, if_true]
    rw [h2 _ (by omega), h3 _ (by omega)]
    simp only [Option.bind_some, if_true]
    rw [h4 _ (by omega), h5 _ (by omega)]
    simp
  · obtain ⟨e1, e2⟩ := (trans_of z1 z2).2 g
    refine ⟨K0 + K1, ?_⟩
    unfold glossatorkeep4_TexteditTransformConverges.f
    rw [h0 _ (by omega), h1 _ (by omega)]
    simp only [Option.bind_some, if_true]
    rw [if_neg g, e1, e2]
    simp [wrap64]
end Go.Proofs.Ytlhaeonjobcdbaa.PA
