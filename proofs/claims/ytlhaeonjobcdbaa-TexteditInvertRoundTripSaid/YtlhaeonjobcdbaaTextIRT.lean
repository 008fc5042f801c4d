/- TexteditInvertRoundTrip: applying an inverse restores the source, and inverting it restores the list. Conditions: those of an argument's size alone. -/
import Derived.Test.YtlhaeonjobcdbaaTextPure3
import Derived.Test.YtlhaeonjobcdbaaPAx16
namespace Go.Proofs.Ytlhaeonjobcdbaa.PA
open Go.RowKit Go.Proofs.YtlhaeonjobcdbaaW.PrintWords Go.Proofs.YtlhaeonjobcdbaaW.PrintLast
set_option linter.unusedVariables false

theorem TexteditInvertRoundTrip_pure (src : ByteArray) (l : List S43) (w0 : src.size ≤ 140737488351232) (hl0 : l.length * 32 ≤ 140737488351232) (hs0 : ∀ y ∈ l, (Lit.int .i64 y.f0).wf = true ∧ (Lit.int .i64 y.f1).wf = true ∧ y.f2.size ≤ 140737488351232) :
    ∃ k, glossatorkeep4_TexteditInvertRoundTrip.f k src l = some true := by
  have hs : ∀ e ∈ l, e.f2.size ≤ 140737488351232 := fun e he => (hs0 e he).2.2
  obtain ⟨K0, h0⟩ := tex_ev
  obtain ⟨K1, h1⟩ := Apply_ev src l hs
  obtain ⟨K2, h2⟩ := Invert_ev src l hs
  obtain ⟨K5, h5⟩ := EqualEdits_ev l (by omega)
  dsimp only at h0 h1 h2 h5
  by_cases g : (applyS src l).2 = 0
  · obtain ⟨hV, _⟩ := applyS_zero hs g
    have hsrc : src.size ≤ 2000 := by have := hV.src; omega
    have hsi := inv_size src hsrc l 0
    have hVi : Valid ((midB src l).size : Int) (invP src 0 l) := by rw [midB_len hV]; exact inv_valid hV
    obtain ⟨K3, h3⟩ := Apply_ev (midB src l) (invP src 0 l) hsi
    obtain ⟨K4, h4⟩ := Invert_ev (midB src l) (invP src 0 l) hsi
    dsimp only at h3 h4
    have hiS : invS src l = (invP src 0 l, 0) := by unfold invS; rw [if_pos ((vdS_zero (by omega) hs).2 hV)]
    have hii : invS (midB src l) (invP src 0 l) = (l, 0) := by
      unfold invS
      rw [if_pos ((vdS_zero (by omega) hsi).2 hVi)]
      have := inv_inv src (midB src l) l (-1) 0 0 [] (by omega) (by omega) hV.ok (by simp) (by omega) rfl
      simpa using this
    have hback : midB (midB src l) (invP src 0 l) = src := by
      refine bs_inj ?_
      have := inv_app src l (-1) 0 0 [] (by omega) (by omega) hV.ok (by simp) (by omega)
      rw [bs_midB, bs_midB]
      simpa using this
    rw [applyS_valid hs hV] at h1
    rw [hiS] at h2
    rw [applyS_valid hsi hVi, hback] at h3
    rw [hii] at h4
    refine ⟨K0 + K1 + K2 + K3 + K4 + K5, ?_⟩
    unfold glossatorkeep4_TexteditInvertRoundTrip.f
    rw [h0 _ (by omega), h1 _ (by omega), h2 _ (by omega)]
    simp only [Option.bind_some, if_true]
    rw [h3 _ (by omega), h4 _ (by omega)]
    simp only [Option.bind_some, if_true]
    rw [h5 _ (by omega)]
    rfl
  · obtain ⟨hv, ha⟩ := applyS_err g
    have hiS : invS src l = ([], vdS (src.size : Int) l) := by unfold invS; rw [if_neg hv]
    rw [ha] at h1
    rw [hiS] at h2
    refine ⟨K0 + K1 + K2, ?_⟩
    unfold glossatorkeep4_TexteditInvertRoundTrip.f
    rw [h0 _ (by omega), h1 _ (by omega), h2 _ (by omega)]
    simp only [Option.bind_some, if_true]
    rw [if_neg hv, if_pos (by decide +kernel)]
    rfl
end Go.Proofs.Ytlhaeonjobcdbaa.PA
