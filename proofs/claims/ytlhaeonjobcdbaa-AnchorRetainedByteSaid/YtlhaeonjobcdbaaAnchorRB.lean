/- AnchorRetainedByte: the positions before and after a retained byte are mapped to the positions before and after the same byte of the result. Conditions: those of an argument's size alone. -/
import Derived.Test.YtlhaeonjobcdbaaAnchorPure2
import Derived.Test.YtlhaeonjobcdbaaTextPure1
import Derived.Test.YtlhaeonjobcdbaaPAx10
namespace Go.Proofs.Ytlhaeonjobcdbaa.PA
open Go.RowKit Go.Proofs.YtlhaeonjobcdbaaW.PrintWords Go.Proofs.YtlhaeonjobcdbaaW.PrintLast
set_option linter.unusedVariables false

theorem rb_j0 (src res : ByteArray) (l : List S43) (off : Int) (c : Bool) (hl : l.length < 4611686018427387904)
    (h : c = false → 0 ≤ off ∧ off < (src.size : Int) ∧ off < 4611686018427387904 ∧ ∃ m : Int, 0 ≤ m ∧ m < 4611686018427387904 ∧ mapS l off true = (m, 0) ∧ mapS l (off + 1) false = (m + 1, 0) ∧ m < (res.size : Int) ∧ bt res m = bt src off) :
    Ev (fun k => glossatorkeep4_AnchorRetainedByte.j0 k src l off res c) true := by
  obtain ⟨K0, h0⟩ := examples_ev
  dsimp only at h0
  cases c with
  | true =>
    refine ⟨K0 + 1, fun k hk => ?_⟩
    obtain ⟨k, rfl⟩ : ∃ m, k = m + 1 := ⟨k - 1, by omega⟩
    simp only [glossatorkeep4_AnchorRetainedByte.j0]
    rw [h0 k (by omega)]
    rfl
  | false =>
    obtain ⟨ho0, hoL, ho64, m, hm0, hm64, e1, e2, hmr, hb⟩ := h rfl
    obtain ⟨K1, h1⟩ := Map_ev l off true hl
    obtain ⟨K2, h2⟩ := Map_ev l (off + 1) false hl
    dsimp only at h1 h2
    rw [e1] at h1
    rw [e2] at h2
    refine ⟨K0 + K1 + K2 + 1, fun k hk => ?_⟩
    obtain ⟨k, rfl⟩ : ∃ m, k = m + 1 := ⟨k - 1, by omega⟩
    simp only [glossatorkeep4_AnchorRetainedByte.j0]
    rw [if_neg (by simp), w64 (x := off + 1) (by omega) (by omega), h1 k (by omega), h2 k (by omega), h0 k (by omega)]
    simp only [Option.bind_some, if_true]
    rw [w64 (x := m + 1) (by omega) (by omega), if_pos rfl, if_pos hmr, if_pos hm0, if_pos ho0, if_pos hoL, hb]
    simp

theorem AnchorRetainedByte_pure (src : ByteArray) (l : List S43) (off : Int) (w0 : src.size ≤ 140737488351232) (hl0 : l.length * 32 ≤ 140737488351232) (hs0 : ∀ y ∈ l, (Lit.int .i64 y.f0).wf = true ∧ (Lit.int .i64 y.f1).wf = true ∧ y.f2.size ≤ 140737488351232) (w2 : (Lit.int .i64 off).wf = true) :
    ∃ k, glossatorkeep4_AnchorRetainedByte.f k src l off = some true := by
  have hl : l.length < 4611686018427387904 := by omega
  have hs : ∀ e ∈ l, e.f2.size ≤ 140737488351232 := fun e he => (hs0 e he).2.2
  refine Ev.rounds (g := fun k => glossatorkeep4_AnchorRetainedByte.f k src l off) ?_
  unfold glossatorkeep4_AnchorRetainedByte.f
  obtain ⟨K0, h0⟩ := examples_ev
  obtain ⟨K1, h1⟩ := Apply_ev src l hs
  obtain ⟨K2, h2⟩ := DeletesByte_ev l off hl
  dsimp only at h0 h1 h2
  by_cases hg : (applyS src l).2 = 0 ∧ ¬ off < 0 ∧ ¬ off ≥ (src.size : Int)
  · obtain ⟨g1, g2, g3⟩ := hg
    obtain ⟨hV, hres⟩ := applyS_zero hs g1
    obtain ⟨K3, h3⟩ := rb_j0 src (applyS src l).1 l off (delS l off) hl (fun hd => by
      have hsrc : src.size ≤ 2000 := by have := hV.src; omega
      refine ⟨by omega, by omega, by omega, mapP off true 0 l, ?_⟩
      obtain ⟨r1, r2, r3⟩ := keep_pos id (bs src) off l 0 0 (-1) (by rw [bs_length]; exact hV.ok) (by omega) (by omega) (by omega) (by rw [bs_length]; omega) hd
      have hlen := app_length id (bs src) l 0 (-1) (by rw [bs_length]; exact hV.ok) (by omega) (by omega) (by omega)
      rw [bs_length] at hlen
      have hall := hV.all
      have hrs : (applyS src l).1.size = (app id (bs src) 0 l).length := by rw [hres]; rfl
      have hlt := (List.getElem?_eq_some_iff.1 (r2.trans (List.getElem?_eq_getElem (show off.toNat < (bs src).length by rw [bs_length]; omega)))).1
      have hvs : vS l = 0 := by
        unfold vS
        have := hV.len
        rw [if_neg (by omega), if_pos (okL_from _ _ _ hV.ok)]
      refine ⟨by omega, by omega, ?_, ?_, by omega, ?_⟩
      · unfold mapS
        rw [if_pos hvs, if_neg (by omega), mapW_eq off true (by omega) (by omega) l (-1) 0 50 (by omega) (okL_from _ _ _ hV.ok) hs hV.len (by omega) (by simp) (by simp)]
      · unfold mapS
        rw [if_pos hvs, if_neg (by omega), mapW_eq (off + 1) false (by omega) (by omega) l (-1) 0 50 (by omega) (okL_from _ _ _ hV.ok) hs hV.len (by omega) (by simp) (by simp), r3]
      · rw [hres]
        refine bt_of_get ?_
        have : bs (⟨(app id (bs src) 0 l).toArray⟩ : ByteArray) = app id (bs src) 0 l := rfl
        rw [this]
        have hz : (mapP off true 0 l - (0 + 0)).toNat = (mapP off true 0 l).toNat := by simp
        rw [hz] at r2
        exact r2)
    dsimp only at h3
    refine ⟨K0 + K1 + K2 + K3, fun k hk => ?_⟩
    dsimp only
    rw [h0 k (by omega)]
    simp only [Option.bind_some, if_true]
    rw [h1 k (by omega)]
    simp only [Option.bind_some]
    rw [if_pos g1, if_neg g2, if_neg g3, h2 k (by omega)]
    simp only [Option.bind_some]
    exact h3 k (by omega)
  · obtain ⟨K3, h3⟩ := rb_j0 src (applyS src l).1 l off true hl (fun h => by cases h)
    dsimp only at h3
    refine ⟨K0 + K1 + K3, fun k hk => ?_⟩
    dsimp only
    have h3' := h3 k (by omega)
    rw [h0 k (by omega)]
    simp only [Option.bind_some, if_true]
    rw [h1 k (by omega)]
    simp only [Option.bind_some]
    by_cases g1 : (applyS src l).2 = 0
    · rw [if_pos g1]
      by_cases g2 : off < 0
      · rw [if_pos g2]; exact h3'
      · rw [if_neg g2, if_pos (show off ≥ (src.size : Int) from Classical.byContradiction fun g3 => hg ⟨g1, g2, g3⟩)]
        exact h3'
    · rw [if_neg g1]; exact h3'
end Go.Proofs.Ytlhaeonjobcdbaa.PA
