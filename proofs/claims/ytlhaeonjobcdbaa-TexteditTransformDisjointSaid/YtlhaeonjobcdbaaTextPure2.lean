/- What textedit.Compose answers, and the canonical list's own facts: in plain Lean. Conditions: an argument's sizes. -/
import Derived.Test.YtlhaeonjobcdbaaTextPure1
import Derived.Test.YtlhaeonjobcdbaaExtCompose
namespace Go.Proofs.Ytlhaeonjobcdbaa.PA
open Go.RowKit Go.Proofs.YtlhaeonjobcdbaaW.PrintWords Go.Proofs.YtlhaeonjobcdbaaW.PrintLast
set_option linter.unusedVariables false

/-- Compose -/
def composeS (src : ByteArray) (l1 l2 : List S43) : List S43 × Int :=
  if vdS (src.size : Int) l1 = 0 then (if vdS ((midB src l1).size : Int) l2 = 0 then (canOut (composeC src l1 l2), canErr (composeC src l1 l2)) else ([], vdS ((midB src l1).size : Int) l2)) else ([], vdS (src.size : Int) l1)
theorem Compose_ev (src : ByteArray) (l1 l2 : List S43) (hs1 : ∀ e ∈ l1, e.f2.size ≤ 140737488351232) (hs2 : ∀ e ∈ l2, e.f2.size ≤ 140737488351232) : Ev (fun k => textedit_Compose.f k src l1 l2) (composeS src l1 l2) := by
  obtain ⟨K1, h1⟩ := Apply_ev src l1 hs1
  obtain ⟨K2, h2⟩ := Validate_ev (midB src l1) l2
  dsimp only at h1 h2
  refine ⟨K1 + K2, fun k hk => ?_⟩
  dsimp only
  unfold textedit_Compose.f composeS
  rw [h1 k (by omega)]
  simp only [Option.bind_some]
  unfold applyS
  by_cases g1 : vdS (src.size : Int) l1 = 0
  · rw [if_pos g1, if_pos g1]
    have hV := (vdS_zero (by omega) hs1).1 g1
    simp only [if_true]
    have := h2 k (by omega)
    unfold midB at this
    rw [this]
    simp only [Option.bind_some]
    by_cases g2 : vdS ((midB src l1).size : Int) l2 = 0
    · have hV2 := (vdS_zero (by omega) hs2).1 g2
      have g2' : vdS ((⟨(app id (bs src) 0 l1).toArray⟩ : ByteArray).size : Int) l2 = 0 := g2
      rw [if_pos g2', if_pos g2, if_pos ⟨by unfold composeOk; rw [Bool.and_eq_true]; exact ⟨applyOk_iff.2 ⟨hV.ok, hV.all, hV.src⟩, applyOk_iff.2 ⟨hV2.ok, hV2.all, hV2.src⟩⟩, rfl⟩]
    · have g2' : ¬ vdS ((⟨(app id (bs src) 0 l1).toArray⟩ : ByteArray).size : Int) l2 = 0 := g2
      rw [if_neg g2', if_neg g2]
      rfl
  · rw [if_neg g1, if_neg g1]
    simp only
    rw [if_neg g1]

theorem canErr_zero {C : List S43} (h : canErr C = 0) : C.length ≤ 50 ∧ canOut C = C := by
  unfold canErr at h
  by_cases hc : C.length > 50
  · rw [if_pos hc] at h; cases h
  · exact ⟨by omega, if_neg hc⟩
theorem canErr_cases (C : List S43) : canErr C = 0 ∨ canErr C = 2 := by
  unfold canErr
  split <;> simp
theorem flush_size {st en : Int} {pend : List UInt8} : ∀ e ∈ flushP st en pend, e.f2.size ≤ pend.length := by
  intro e he
  unfold flushP at he
  split at he
  · simp only [List.mem_singleton] at he
    subst he
    exact Nat.le_refl _
  · simp at he
theorem canon_size (L : Int) : ∀ (T : List TB) (st : Int) (pend : List UInt8), ∀ e ∈ canon L st pend T, e.f2.size ≤ pend.length + T.length
  | [], st, pend, e, he => by
    simp only [canon] at he
    have := flush_size e he
    simp only [List.length_nil]
    omega
  | x :: r, st, pend, e, he => by
    simp only [canon] at he
    by_cases ho : x.2 = -1
    · rw [if_pos ho] at he
      have := canon_size L r st _ e he
      simp only [List.length_append, List.length_cons, List.length_nil] at this ⊢
      omega
    · rw [if_neg ho] at he
      rcases List.mem_append.1 he with h | h
      · have := flush_size e h
        simp only [List.length_cons]
        omega
      · have := canon_size L r _ [] e h
        simp only [List.length_cons, List.length_nil] at this ⊢
        omega
/-- What is known of an accepted composition. -/
structure Composed (src : ByteArray) (l1 l2 : List S43) : Prop where
  v1 : Valid (src.size : Int) l1
  v2 : Valid ((midB src l1).size : Int) l2
  out : (composeS src l1 l2).1 = composeC src l1 l2
  len : (composeC src l1 l2).length ≤ 50
theorem composed_of {src : ByteArray} {l1 l2 : List S43} (hs1 : ∀ e ∈ l1, e.f2.size ≤ 140737488351232) (hs2 : ∀ e ∈ l2, e.f2.size ≤ 140737488351232) (h : (composeS src l1 l2).2 = 0) : Composed src l1 l2 := by
  unfold composeS at h
  by_cases g1 : vdS (src.size : Int) l1 = 0
  · rw [if_pos g1] at h
    by_cases g2 : vdS ((midB src l1).size : Int) l2 = 0
    · rw [if_pos g2] at h
      obtain ⟨h50, ho⟩ := canErr_zero h
      exact ⟨(vdS_zero (by omega) hs1).1 g1, (vdS_zero (by omega) hs2).1 g2, by unfold composeS; rw [if_pos g1, if_pos g2]; exact ho, h50⟩
    · rw [if_neg g2] at h
      exact absurd h g2
  · rw [if_neg g1] at h
    exact absurd h g1
theorem Composed.ok {src : ByteArray} {l1 l2 : List S43} (h : Composed src l1 l2) : composeOk src l1 l2 = true := by
  unfold composeOk
  rw [Bool.and_eq_true]
  exact ⟨applyOk_iff.2 ⟨h.v1.ok, h.v1.all, h.v1.src⟩, applyOk_iff.2 ⟨h.v2.ok, h.v2.all, h.v2.src⟩⟩
/-- The composed list on the source's own trace gives the traced bytes behind both lists. -/
theorem composeC_app {src : ByteArray} {l1 l2 : List S43} (h : composeOk src l1 l2 = true) : app insT (traceP (bs src)) 0 (composeC src l1 l2) = twice src l1 l2 := by
  have hg := (compose_facts h).2.2.2.2.2.2.2.2
  have := canon_app (bs src) (twice src l1 l2) 0 [] (by omega) (by omega) hg.zero
  rw [bs_length] at this
  exact this
theorem composeC_ok {src : ByteArray} {l1 l2 : List S43} (h : composeOk src l1 l2 = true) : okL (src.size : Int) (-1) (composeC src l1 l2) = true := by
  have hg := (compose_facts h).2.2.2.2.2.2.2.2
  have := canon_ok (bs src) (twice src l1 l2) 0 [] (by omega) (by omega) hg.zero
  rw [bs_length] at this
  exact this
theorem composeC_size {src : ByteArray} {l1 l2 : List S43} (h : composeOk src l1 l2 = true) : ∀ e ∈ composeC src l1 l2, e.f2.size ≤ 140737488351232 := by
  intro e he
  have := canon_size _ _ _ _ e he
  have h2 := (compose_facts h).2.2.2.2.2.2.2.1
  simp only [List.length_nil] at this
  omega
theorem twice_fst {src : ByteArray} {l1 l2 : List S43} : (twice src l1 l2).map Prod.fst = app id (bs (midB src l1)) 0 l2 := by
  unfold twice
  rw [← app_map Prod.fst insT id insT_fst, ← app_map Prod.fst insT id insT_fst, traceP_fst]
  rfl
theorem composeC_apply {src : ByteArray} {l1 l2 : List S43} (h : composeOk src l1 l2 = true) : app id (bs src) 0 (composeC src l1 l2) = app id (bs (midB src l1)) 0 l2 := by
  have hg := (compose_facts h).2.2.2.2.2.2.2.2
  have := canon_apply (bs src) (twice src l1 l2) hg.zero
  rw [bs_length, twice_fst] at this
  exact this
/-- It can be applied. -/
theorem composeC_valid {src : ByteArray} {l1 l2 : List S43} (h : Composed src l1 l2) : Valid (src.size : Int) (composeC src l1 l2) := by
  have hok := h.ok
  refine ⟨h.v1.src, h.len, composeC_ok hok, ?_⟩
  have h1 := app_length id (bs src) (composeC src l1 l2) 0 (-1) (by rw [bs_length]; exact composeC_ok hok) (by omega) (by omega) (by omega)
  have h2 := app_length id (bs (midB src l1)) l2 0 (-1) (by rw [bs_length]; exact h.v2.ok) (by omega) (by omega) (by omega)
  rw [composeC_apply hok, h2] at h1
  rw [bs_length, bs_length] at h1
  have := h.v2.all
  omega
end Go.Proofs.Ytlhaeonjobcdbaa.PA
