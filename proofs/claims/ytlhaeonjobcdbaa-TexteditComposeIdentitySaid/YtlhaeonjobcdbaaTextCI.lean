/- TexteditComposeIdentity: composing with the empty list, at either side, gives the canonical form of the other. Conditions: those of an argument's size alone. -/
import Derived.Test.YtlhaeonjobcdbaaTextPure3
import Derived.Test.YtlhaeonjobcdbaaPAx21
namespace Go.Proofs.Ytlhaeonjobcdbaa.PA
open Go.RowKit Go.Proofs.YtlhaeonjobcdbaaW.PrintWords Go.Proofs.YtlhaeonjobcdbaaW.PrintLast
set_option linter.unusedVariables false

theorem midB_nil (src : ByteArray) : midB src [] = src := bs_inj rfl
theorem app_nil {α : Type} (ins : UInt8 → α) (T : List α) : app ins T 0 [] = T := rfl
theorem canon_own (src : ByteArray) (l : List S43) : composeC src [] l = composeC src l [] := by
  unfold composeC twice
  rw [app_nil, app_nil]
theorem TexteditComposeIdentity_pure (src : ByteArray) (l : List S43) (w0 : src.size ≤ 140737488351232) (hl0 : l.length * 32 ≤ 140737488351232) (hs0 : ∀ y ∈ l, (Lit.int .i64 y.f0).wf = true ∧ (Lit.int .i64 y.f1).wf = true ∧ y.f2.size ≤ 140737488351232) :
    ∃ k, glossatorkeep4_TexteditComposeIdentity.f k src l = some true := by
  have hs : ∀ e ∈ l, e.f2.size ≤ 140737488351232 := fun e he => (hs0 e he).2.2
  have hn : ∀ e ∈ ([] : List S43), e.f2.size ≤ 140737488351232 := fun e he => by cases he
  obtain ⟨K0, h0⟩ := tex_ev
  obtain ⟨K1, h1⟩ := Compose_ev src [] l hn hs
  obtain ⟨K2, h2⟩ := Compose_ev src l [] hs hn
  obtain ⟨K3, h3⟩ := Apply_ev src l hs
  dsimp only at h0 h1 h2 h3
  by_cases g : (applyS src l).2 = 0
  · obtain ⟨hV, _⟩ := applyS_zero hs g
    have hVn : Valid (src.size : Int) ([] : List S43) := ⟨hV.src, by simp, rfl, by simp only [total]; have := hV.src; omega⟩
    have hVm : Valid ((midB src l).size : Int) ([] : List S43) := by
      refine ⟨?_, by simp, rfl, ?_⟩
      · rw [midB_len hV]; exact hV.all
      · rw [midB_len hV]; simp only [total]; have := hV.all; omega
    have hlen : (composeC src [] l).length ≤ 50 := by
      have := canon_count (bs src) l 0 (by omega) (okL_mono hV.ok (by omega))
      rw [bs_length] at this
      unfold composeC twice
      rw [app_nil]
      exact Nat.le_trans this hV.len
    have hok : composeOk src [] l = true := by
      unfold composeOk
      rw [Bool.and_eq_true, midB_nil]
      exact ⟨applyOk_iff.2 ⟨hVn.ok, hVn.all, hVn.src⟩, applyOk_iff.2 ⟨hV.ok, hV.all, hV.src⟩⟩
    have e1 : composeS src [] l = (composeC src [] l, 0) := by
      unfold composeS canOut canErr
      rw [if_pos ((vdS_zero (by omega) hn).2 hVn), midB_nil, if_pos ((vdS_zero (by omega) hs).2 hV), if_neg (by omega), if_neg (by omega)]
    have e2 : composeS src l [] = (composeC src [] l, 0) := by
      unfold composeS canOut canErr
      rw [if_pos ((vdS_zero (by omega) hs).2 hV), if_pos ((vdS_zero (by omega) hn).2 hVm), ← canon_own, if_neg (by omega), if_neg (by omega)]
    have hC : Composed src [] l := composed_of hn hs (by rw [e1])
    have hsz := composeC_size hok
    have hm : midB src (composeC src [] l) = midB src l := by
      refine bs_inj ?_
      rw [bs_midB, composeC_apply hok, midB_nil]
      rfl
    obtain ⟨K4, h4⟩ := Apply_ev src (composeC src [] l) hsz
    obtain ⟨K5, h5⟩ := EqualEdits_ev (composeC src [] l) (by omega)
    dsimp only at h4 h5
    rw [applyS_valid hs hV] at h3
    rw [applyS_valid hsz (composeC_valid hC), hm] at h4
    rw [e1] at h1
    rw [e2] at h2
    refine ⟨K0 + K1 + K2 + K3 + K4 + K5, ?_⟩
    unfold glossatorkeep4_TexteditComposeIdentity.f
    rw [h0 _ (by omega), h1 _ (by omega), h2 _ (by omega), h3 _ (by omega)]
    simp only [Option.bind_some, if_true]
    rw [h4 _ (by omega), h5 _ (by omega)]
    simp
  · obtain ⟨hv, ha⟩ := applyS_err g
    have e2 : composeS src l [] = ([], vdS (src.size : Int) l) := by unfold composeS; rw [if_neg hv]
    have e1 : ¬ (composeS src [] l).2 = 0 := by
      intro h
      have hC := composed_of hn hs h
      have := hC.v2
      rw [midB_nil] at this
      exact hv ((vdS_zero (by omega) hs).2 this)
    rw [ha] at h3
    rw [e2] at h2
    refine ⟨K0 + K1 + K2 + K3, ?_⟩
    unfold glossatorkeep4_TexteditComposeIdentity.f
    rw [h0 _ (by omega), h1 _ (by omega), h2 _ (by omega), h3 _ (by omega)]
    simp only [Option.bind_some, if_true]
    rw [if_neg hv, if_neg e1]
    simp
end Go.Proofs.Ytlhaeonjobcdbaa.PA
