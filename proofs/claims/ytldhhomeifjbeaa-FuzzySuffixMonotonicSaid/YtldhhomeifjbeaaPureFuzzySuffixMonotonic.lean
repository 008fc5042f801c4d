/- FuzzySuffixMonotonic: the plain law. No walk. -/
import Derived.Test.YtldhhomeifjbeaaPAx12
import Derived.Test.YtldhhomeifjbeaaScoreP
namespace Go.Proofs.Ytldhhomeifjbeaa.Pure
open Go.RowKit Go.Proofs.Ytldhhomeifjbeaa.PA Go.Proofs.YtldhhomeifjbeaaW.PrintWords Go.Proofs.YtldhhomeifjbeaaW.PrintLast
set_option linter.unusedVariables false
set_option linter.unusedSimpArgs false
theorem bt_append (s t : ByteArray) (i : Nat) (h : i < s.size) : bt (s ++ t) (i : Int) = bt s (i : Int) := by
  unfold bt
  simp only [Int.toNat_natCast]
  rw [dif_pos (show i < (s ++ t).size by rw [ByteArray.size_append]; omega), dif_pos h]
  rw [ByteArray.getElem_append_left h]
theorem pt_append (b : Int) (s t : ByteArray) (x : Nat) (h : x < s.size) : ptP b (s ++ t) (x : Int) = ptP b s (x : Int) := by
  unfold ptP startB
  rw [bt_append s t x h]
  by_cases hx : x = 0
  · subst hx
    simp
  · have e : (x : Int) - 1 = ((x - 1 : Nat) : Int) := by omega
    rw [e, bt_append s t (x - 1) (by omega)]
theorem sa_append (p s t : ByteArray) : ∀ (o : List Nat) (i : Nat) (prev : Int), SA p s i prev o → SA p (s ++ t) i prev o ∧ sasc p (s ++ t) i prev o = sasc p s i prev o
  | [], i, prev, h => ⟨h, rfl⟩
  | x :: r, i, prev, h => by
    obtain ⟨h1, h2, h3, h4, h5⟩ := h
    obtain ⟨i1, i2⟩ := sa_append p s t r (i + 1) x h5
    refine ⟨⟨h1, h2, by rw [ByteArray.size_append]; omega, by rw [bt_append s t x h3]; exact h4, i1⟩, ?_⟩
    simp only [sasc]
    rw [pt_append _ s t x h3, i2]
theorem FuzzySuffixMonotonic : glossatorkeep4_FuzzySuffixMonotonic.Pure := by
  intro a0 a1 a2 w0 w1 w2
  obtain ⟨K, hK⟩ : ∃ K : Nat, 1000 ≤ K := ⟨1000, Nat.le_refl _⟩
  refine ⟨K + 1, ?_⟩
  obtain ⟨s, offs, ok, hf, hs⟩ := score_said a0 a1 (K + 1) (by omega)
  have hex := examples_true (K + 1) (by omega)
  have hexK := examples_true K (by omega)
  have hj : ∀ x, glossatorkeep4_FuzzySuffixMonotonic.j0 (K + 1) a0 a1 a2 x true = some true := by
    intro x
    simp only [glossatorkeep4_FuzzySuffixMonotonic.j0]
    rw [if_pos trivial, hexK]
    rfl
  unfold glossatorkeep4_FuzzySuffixMonotonic.f
  rw [hex]
  simp only [Option.bind_some, if_true]
  rw [hf]
  simp only [Option.bind_some]
  rcases hs with ⟨rfl, rfl, rfl, _⟩ | ⟨rfl, hp, hn, o, rfl, hsa, hsc, hmax⟩
  · rw [if_neg (by decide)]
    exact hj _
  · rw [if_pos rfl]
    by_cases hbig : (wrap64 ((a1.size : Int) + (a2.size : Int))) > 30
    · rw [decide_eq_true hbig]
      exact hj _
    · rw [decide_eq_false hbig]
      rw [w64' (by omega) (by omega)] at hbig
      simp only [glossatorkeep4_FuzzySuffixMonotonic.j0]
      rw [if_neg (by decide), if_pos (by omega)]
      obtain ⟨s2, offs2, ok2, hf2, hs2⟩ := score_said a0 (a1 ++ a2) K (by omega)
      rw [hf2]
      simp only [Option.bind_some]
      rw [hexK]
      simp only [Option.bind_some, if_true]
      have hap := sa_append a0 a1 a2 o 0 (-1) hsa
      rcases hs2 with ⟨rfl, rfl, rfl, hno⟩ | ⟨rfl, _, _, o2, rfl, _, _, hmax2⟩
      · exact absurd hap.1 (hno hp (by rw [ByteArray.size_append]; omega) o)
      · rw [if_pos rfl]
        have := hmax2 o hap.1
        rw [decide_eq_true (by omega)]
end Go.Proofs.Ytldhhomeifjbeaa.Pure
