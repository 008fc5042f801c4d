/- TexteditComposeAssociative: composing three lists gives one list, whichever two are composed first. Conditions: those of an argument's size alone. -/
import Derived.Test.YtlhaeonjobcdbaaTextPure3
import Derived.Test.YtlhaeonjobcdbaaPAx18
namespace Go.Proofs.Ytlhaeonjobcdbaa.PA
open Go.RowKit Go.Proofs.YtlhaeonjobcdbaaW.PrintWords Go.Proofs.YtlhaeonjobcdbaaW.PrintLast
set_option linter.unusedVariables false

theorem assoc {src : ByteArray} {a b c : List S43} (hab : composeOk src a b = true) (hbc : composeOk (midB src a) b c = true) : composeC src (composeC src a b) c = composeC src a (composeC (midB src a) b c) := by
  have h1 := composeC_app hab
  have h2 := composeC_app hbc
  have hm : bs (midB src a) = (app insT (traceP (bs src)) 0 a).map Prod.fst := by
    rw [← app_map Prod.fst insT id insT_fst, traceP_fst]
    rfl
  unfold composeC at h1 h2 ⊢
  rw [show twice src (canon (src.size : Int) 0 [] (twice src a b)) c = app insT (app insT (traceP (bs src)) 0 (canon (src.size : Int) 0 [] (twice src a b))) 0 c from rfl, h1]
  rw [show twice src a (canon ((midB src a).size : Int) 0 [] (twice (midB src a) b c)) = app insT (app insT (traceP (bs src)) 0 a) 0 (canon ((midB src a).size : Int) 0 [] (twice (midB src a) b c)) from rfl, app_subst (app insT (traceP (bs src)) 0 a) (canon ((midB src a).size : Int) 0 [] (twice (midB src a) b c)), ← hm, h2]
  unfold twice
  rw [← app_map (subst _) insT insT (subst_ins _), ← app_map (subst _) insT insT (subst_ins _), hm, subst_trace]

theorem TexteditComposeAssociative_pure (src : ByteArray) (l1 l2 l3 : List S43) (w0 : src.size ≤ 140737488351232) (hl0 : l1.length * 32 ≤ 140737488351232) (hs0 : ∀ y ∈ l1, (Lit.int .i64 y.f0).wf = true ∧ (Lit.int .i64 y.f1).wf = true ∧ y.f2.size ≤ 140737488351232)
    (hl1 : l2.length * 32 ≤ 140737488351232) (hs1 : ∀ y ∈ l2, (Lit.int .i64 y.f0).wf = true ∧ (Lit.int .i64 y.f1).wf = true ∧ y.f2.size ≤ 140737488351232)
    (hl2 : l3.length * 32 ≤ 140737488351232) (hs2 : ∀ y ∈ l3, (Lit.int .i64 y.f0).wf = true ∧ (Lit.int .i64 y.f1).wf = true ∧ y.f2.size ≤ 140737488351232) :
    ∃ k, glossatorkeep4_TexteditComposeAssociative.f k src l1 l2 l3 = some true := by
  have z1 : ∀ e ∈ l1, e.f2.size ≤ 140737488351232 := fun e he => (hs0 e he).2.2
  have z2 : ∀ e ∈ l2, e.f2.size ≤ 140737488351232 := fun e he => (hs1 e he).2.2
  have z3 : ∀ e ∈ l3, e.f2.size ≤ 140737488351232 := fun e he => (hs2 e he).2.2
  obtain ⟨K0, h0⟩ := tex_ev
  obtain ⟨K1, h1⟩ := Compose_ev src l1 l2 z1 z2
  obtain ⟨K2, h2⟩ := Apply_ev src l1 z1
  obtain ⟨K3, h3⟩ := Compose_ev (applyS src l1).1 l2 l3 z2 z3
  dsimp only at h0 h1 h2 h3
  by_cases g : (composeS src l1 l2).2 = 0 ∧ (applyS src l1).2 = 0 ∧ (composeS (applyS src l1).1 l2 l3).2 = 0
  · obtain ⟨g1, g2, g3⟩ := g
    have hC1 := composed_of z1 z2 g1
    have ha := applyS_valid z1 hC1.v1
    rw [ha] at g3 h2 h3
    have hC2 := composed_of z2 z3 g3
    have s1 := composeC_size hC1.ok
    have s2 := composeC_size hC2.ok
    obtain ⟨K4, h4⟩ := Compose_ev src (composeC src l1 l2) l3 s1 z3
    obtain ⟨K5, h5⟩ := Compose_ev src l1 (composeC (midB src l1) l2 l3) z1 s2
    dsimp only at h4 h5
    by_cases gg : (composeS src (composeC src l1 l2) l3).2 = 0 ∧ (composeS src l1 (composeC (midB src l1) l2 l3)).2 = 0
    · obtain ⟨g4, g5⟩ := gg
      have hC4 := composed_of s1 z3 g4
      have hC5 := composed_of z1 s2 g5
      have heq : (composeS src (composeC src l1 l2) l3).1 = (composeS src l1 (composeC (midB src l1) l2 l3)).1 := by rw [hC4.out, hC5.out, assoc hC1.ok hC2.ok]
      obtain ⟨K6, h6⟩ := EqualEdits_ev (composeS src l1 (composeC (midB src l1) l2 l3)).1 (by rw [hC5.out]; have := hC5.len; omega)
      dsimp only at h6
      refine ⟨K0 + K1 + K2 + K3 + K4 + K5 + K6 + 1, ?_⟩
      unfold glossatorkeep4_TexteditComposeAssociative.f
      rw [h0 _ (by omega), h1 _ (by omega), h2 _ (by omega)]
      simp only [Option.bind_some, if_true]
      rw [h3 _ (by omega)]
      simp only [Option.bind_some]
      rw [if_pos g1, g3, hC1.out, hC2.out]
      simp only [glossatorkeep4_TexteditComposeAssociative.j0]
      rw [if_neg (by simp), h4 _ (by omega), h5 _ (by omega), h0 _ (by omega)]
      simp only [Option.bind_some, if_true]
      rw [if_pos g4, if_pos g5, heq, h6 _ (by omega)]
      rfl
    · refine ⟨K0 + K1 + K2 + K3 + K4 + K5 + 1, ?_⟩
      unfold glossatorkeep4_TexteditComposeAssociative.f
      rw [h0 _ (by omega), h1 _ (by omega), h2 _ (by omega)]
      simp only [Option.bind_some, if_true]
      rw [h3 _ (by omega)]
      simp only [Option.bind_some]
      rw [if_pos g1, g3, hC1.out, hC2.out]
      simp only [glossatorkeep4_TexteditComposeAssociative.j0]
      rw [if_neg (by simp), h4 _ (by omega), h5 _ (by omega), h0 _ (by omega)]
      simp only [Option.bind_some, if_true]
      by_cases g4 : (composeS src (composeC src l1 l2) l3).2 = 0
      · rw [if_pos g4, if_neg (fun g5 => gg ⟨g4, g5⟩)]
      · rw [if_neg g4]
  · refine ⟨K0 + K1 + K2 + K3 + 1, ?_⟩
    have hj : ∀ a b c d e, glossatorkeep4_TexteditComposeAssociative.j0 (K0 + K1 + K2 + K3 + 1) a b c d e true = some true := by
      intro a b c d e
      simp only [glossatorkeep4_TexteditComposeAssociative.j0]
      rw [if_pos trivial, h0 _ (by omega)]
      rfl
    unfold glossatorkeep4_TexteditComposeAssociative.f
    rw [h0 _ (by omega), h1 _ (by omega), h2 _ (by omega)]
    simp only [Option.bind_some, if_true]
    rw [h3 _ (by omega)]
    simp only [Option.bind_some]
    by_cases g1 : (composeS src l1 l2).2 = 0
    · rw [if_pos g1]
      by_cases g2 : (applyS src l1).2 = 0
      · rw [if_pos g2]
        have g3 : ((composeS (applyS src l1).1 l2 l3).2 != 0) = true := bne_iff_ne.2 (fun g3 => g ⟨g1, g2, g3⟩)
        rw [g3]
        exact hj _ _ _ _ _
      · rw [if_neg g2]
        exact hj _ _ _ _ _
    · rw [if_neg g1]
      exact hj _ _ _ _ _
end Go.Proofs.Ytlhaeonjobcdbaa.PA
