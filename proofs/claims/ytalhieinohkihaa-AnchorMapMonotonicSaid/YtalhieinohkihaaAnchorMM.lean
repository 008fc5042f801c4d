/- AnchorMapMonotonic: Map preserves the order of offsets, and right gravity never yields a smaller position than left gravity. Conditions: those of an argument's size alone. -/
import Derived.Test.YtalhieinohkihaaAnchorPure1
import Derived.Test.YtalhieinohkihaaPAx3
namespace Go.Proofs.Ytalhieinohkihaa.PA
open Go.RowKit Go.Proofs.YtalhieinohkihaaW.PrintWords Go.Proofs.YtalhieinohkihaaW.PrintLast
set_option linter.unusedVariables false
theorem mm_j0 (a b r l : Int) (c : Bool) (h : c = false → a ≤ b ∧ l ≤ r) : Ev (fun k => glossatorkeep4_AnchorMapMonotonic.j0 k a b r l c) true := by
  obtain ⟨K, hK⟩ := examples_ev
  refine ⟨K + 1, fun k hk => ?_⟩
  obtain ⟨k, rfl⟩ : ∃ m, k = m + 1 := ⟨k - 1, by omega⟩
  dsimp only at hK
  simp only [glossatorkeep4_AnchorMapMonotonic.j0]
  rw [hK k (by omega)]
  cases c with
  | true => rfl
  | false =>
    obtain ⟨h1, h2⟩ := h rfl
    simp [h1, h2]
theorem AnchorMapMonotonic_pure (l : List S31) (a1 a2 : Int) (a3 : Bool) (hl0 : l.length * 32 ≤ 140737488351232) (hs0 : ∀ y ∈ l, (Lit.int .i64 y.f0).wf = true ∧ (Lit.int .i64 y.f1).wf = true ∧ y.f2.size ≤ 140737488351232) (w1 : (Lit.int .i64 a1).wf = true) (w2 : (Lit.int .i64 a2).wf = true) :
    ∃ k, glossatorkeep4_AnchorMapMonotonic.f k l a1 a2 a3 = some true := by
  have hl : l.length < 4611686018427387904 := by omega
  have hs : ∀ e ∈ l, e.f2.size ≤ 140737488351232 := fun e he => (hs0 e he).2.2
  refine Ev.rounds (g := fun k => glossatorkeep4_AnchorMapMonotonic.f k l a1 a2 a3) ?_
  unfold glossatorkeep4_AnchorMapMonotonic.f
  obtain ⟨K0, h0⟩ := examples_ev
  obtain ⟨K1, h1⟩ := Map_ev l a1 a3 hl
  obtain ⟨K2, h2⟩ := Map_ev l a2 a3 hl
  obtain ⟨K3, h3⟩ := Map_ev l a1 true hl
  obtain ⟨K4, h4⟩ := Map_ev l a1 false hl
  have ht := mm_j0 (mapS l a1 a3).1 (mapS l a2 a3).1 (mapS l a1 true).1 (mapS l a1 false).1 true (fun h => by cases h)
  obtain ⟨K5, h5⟩ := ht
  by_cases hg : (mapS l a1 a3).2 = 0 ∧ (mapS l a2 a3).2 = 0 ∧ (mapS l a1 true).2 = 0 ∧ (mapS l a1 false).2 = 0 ∧ ¬ a1 > a2 ∧ ¬ a2 > 1099511627776
  · obtain ⟨g1, g2, g3, g4, g5, g6⟩ := hg
    obtain ⟨hv, ha0, _⟩ := mapS_zero g1
    obtain ⟨_, hok⟩ := vS_zero hv
    have e1 := mapS_eq hs (by omega) g1
    have e2 := mapS_eq hs (by omega) g2
    have e3 := mapS_eq hs (by omega) g3
    have e4 := mapS_eq hs (by omega) g4
    obtain ⟨K6, h6⟩ := mm_j0 (mapS l a1 a3).1 (mapS l a2 a3).1 (mapS l a1 true).1 (mapS l a1 false).1 false (fun _ => by
      rw [e1, e2, e3, e4]
      exact ⟨mapP_mono a1 a2 a3 (by omega) l (-1) 0 hok, mapP_right a1 l (-1) 0 hok⟩)
    refine ⟨K0 + K1 + K2 + K3 + K4 + K5 + K6, fun k hk => ?_⟩
    dsimp only at h0 h1 h2 h3 h4 h5 h6 ⊢
    rw [h0 k (by omega)]
    simp only [Option.bind_some, if_true]
    rw [h1 k (by omega), h2 k (by omega), h3 k (by omega), h4 k (by omega)]
    simp only [Option.bind_some]
    rw [if_pos g1, if_pos g2, if_pos g3, if_pos g4, if_neg g5, decide_eq_false g6]
    exact h6 k (by omega)
  · refine ⟨K0 + K1 + K2 + K3 + K4 + K5, fun k hk => ?_⟩
    dsimp only at h0 h1 h2 h3 h4 h5 ⊢
    have h5' := h5 k (by omega)
    rw [h0 k (by omega)]
    simp only [Option.bind_some, if_true]
    rw [h1 k (by omega), h2 k (by omega), h3 k (by omega), h4 k (by omega)]
    simp only [Option.bind_some]
    by_cases g1 : (mapS l a1 a3).2 = 0
    · rw [if_pos g1]
      by_cases g2 : (mapS l a2 a3).2 = 0
      · rw [if_pos g2]
        by_cases g3 : (mapS l a1 true).2 = 0
        · rw [if_pos g3]
          by_cases g4 : (mapS l a1 false).2 = 0
          · rw [if_pos g4]
            by_cases g5 : a1 > a2
            · rw [if_pos g5]; exact h5'
            · rw [if_neg g5]
              rw [decide_eq_true (show a2 > 1099511627776 from Classical.byContradiction fun g6 => hg ⟨g1, g2, g3, g4, g5, g6⟩)]
              exact h5'
          · rw [if_neg g4]; exact h5'
        · rw [if_neg g3]; exact h5'
      · rw [if_neg g2]; exact h5'
    · rw [if_neg g1]; exact h5'
end Go.Proofs.Ytalhieinohkihaa.PA
