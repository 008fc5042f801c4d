/- TexteditTransformDisjoint: two lists of which one lies ahead of the other give, one after the other, what both at once give. Conditions: those of an argument's size alone. -/
import Derived.Test.YtlhaeonjobcdbaaTransPure
import Derived.Test.YtlhaeonjobcdbaaPAx20
namespace Go.Proofs.Ytlhaeonjobcdbaa.PA
open Go.RowKit Go.Proofs.YtlhaeonjobcdbaaW.PrintWords Go.Proofs.YtlhaeonjobcdbaaW.PrintLast
set_option linter.unusedVariables false

theorem popE_suffix : ∀ (es : List S43) (i : Int), ∃ pre, es = pre ++ popE i es
  | [], _ => ⟨[], rfl⟩
  | e :: es, i => by
    simp only [popE]
    split
    · obtain ⟨pre, h⟩ := popE_suffix es i
      exact ⟨e :: pre, by rw [List.cons_append, ← h]⟩
    · exact ⟨[], rfl⟩
theorem popE_head : ∀ (es : List S43) (i : Int) (e : S43) (r : List S43), popE i es = e :: r → i < e.f1
  | x :: es, i, e, r, h => by
    simp only [popE] at h
    split at h
    · exact popE_head es i e r h
    · cases h
      omega
/-- el lies ahead of er. -/
structure Dj (i : Nat) (el er : List S43) : Prop where
  ahead : ∀ e ∈ el, ∀ e' ∈ er, e.f1 < e'.f0
  inc : el.Pairwise (fun a b => a.f1 ≤ b.f1)
  le : ∀ e' ∈ er, e'.f0 ≤ e'.f1
  now : ∀ e ∈ el, (i : Int) ≤ e.f1
theorem popE_append : ∀ (el er : List S43) (i : Int), popE i el ≠ [] → popE i (el ++ er) = popE i el ++ er
  | [], er, i, h => absurd rfl h
  | e :: el, er, i, h => by
    simp only [popE, List.cons_append] at h ⊢
    by_cases hc : e.f1 ≤ i
    · rw [if_pos hc] at h ⊢
      rw [if_pos hc]
      exact popE_append el er i h
    · rw [if_neg hc, if_neg hc]
      rfl
theorem popE_append0 : ∀ (el er : List S43) (i : Int), popE i el = [] → popE i (el ++ er) = popE i er
  | [], er, i, h => rfl
  | e :: el, er, i, h => by
    simp only [popE, List.cons_append] at h ⊢
    by_cases hc : e.f1 ≤ i
    · rw [if_pos hc] at h ⊢
      exact popE_append0 el er i h
    · rw [if_neg hc] at h
      cases h
theorem Dj.er {i : Nat} {el er : List S43} (h : Dj i el er) (hne : el ≠ []) : popE i er = er ∧ delHead i er = false ∧ insText i er = [] := by
  cases er with
  | nil => exact ⟨rfl, rfl, rfl⟩
  | cons e' er =>
    cases el with
    | nil => exact absurd rfl hne
    | cons e el =>
      have h1 := h.ahead e (by simp) e' (by simp)
      have h2 := h.now e (by simp)
      have h3 := h.le e' (by simp)
      exact ⟨pop_gt (by omega), by simp only [delHead]; exact decide_eq_false (by omega), ins_ne (by omega)⟩
theorem Dj.parts {i : Nat} {el er : List S43} (h : Dj i el er) : insText i (el ++ er) = insText i el ++ insText i er ∧ popE i (el ++ er) = popE i el ++ popE i er ∧ delHead i (popE i el ++ popE i er) = (delHead i (popE i el) || delHead i (popE i er)) := by
  by_cases hne : el = []
  · subst hne
    exact ⟨rfl, rfl, by simp [popE, delHead]⟩
  · obtain ⟨p1, p2, p3⟩ := h.er hne
    refine ⟨?_, ?_, ?_⟩
    · rw [p3, List.append_nil]
      cases el with
      | nil => exact absurd rfl hne
      | cons e el => rfl
    · by_cases hp : popE i el = []
      · rw [popE_append0 _ _ _ hp, hp]
        rfl
      · rw [popE_append _ _ _ hp, p1]
    · rw [p1, p2, Bool.or_false]
      cases hp : popE i el with
      | nil => exact p2
      | cons e r => rfl
theorem Dj.next {i : Nat} {el er : List S43} (h : Dj i el er) : Dj (i + 1) (popE i el) (popE i er) := by
  obtain ⟨pre, hpre⟩ := popE_suffix el i
  have hsuf : (popE i el).Pairwise (fun a b => a.f1 ≤ b.f1) := by
    have := h.inc
    rw [hpre] at this
    exact (List.pairwise_append.1 this).2.1
  refine ⟨fun e he e' he' => h.ahead e (popE_sub _ _ e he) e' (popE_sub _ _ e' he'), hsuf, fun e' he' => h.le e' (popE_sub _ _ e' he'), ?_⟩
  cases hp : popE i el with
  | nil => intro e he; cases he
  | cons x r =>
    rw [hp] at hsuf
    have hx := popE_head el i x r hp
    intro e he
    rcases List.mem_cons.1 he with rfl | he
    · omega
    · have := (List.pairwise_cons.1 hsuf).1 e he
      omega
theorem tl_disjoint (src : List UInt8) : ∀ (n i : Nat) (el : List S43) (ol : Nat) (Ml : List TB) (er : List S43) (or' : Nat) (Mr : List TB), Dj i el er → (tl src n i el ol Ml er or' Mr).1.map Prod.fst = Ml.map Prod.fst ++ pap src n i (el ++ er)
  | 0, i, el, ol, Ml, er, or', Mr, h => by
    simp only [tl, pap, List.map_append, traceFrom_fst, map_insT, h.parts.1, List.append_assoc]
  | n + 1, i, el, ol, Ml, er, or', Mr, h => by
    obtain ⟨q1, q2, q3⟩ := h.parts
    simp only [tl, pap]
    rw [tl_disjoint src n (i + 1) _ _ _ _ _ _ h.next, roundEnd_fst, q1, q2, q3]
    simp only [List.map_append, traceFrom_fst, map_insT, List.append_assoc]
theorem okL_app {L : Int} : ∀ {l1 l2 : List S43} {p : Int}, okL L p (l1 ++ l2) = true → (∀ e ∈ l1, p < e.f1) ∧ (∀ e ∈ l2, p < e.f0 ∧ e.f0 ≤ e.f1) ∧ (∀ e ∈ l1, ∀ e' ∈ l2, e.f1 < e'.f0) ∧ l1.Pairwise (fun a b => a.f1 ≤ b.f1)
  | [], [], p, h => ⟨by simp, by simp, by simp, List.Pairwise.nil⟩
  | [], e :: l2, p, h => by
    rw [List.nil_append, okL_cons] at h
    obtain ⟨o1, o2, o3, o4⟩ := h
    have ih := okL_app (l1 := []) o4
    refine ⟨by simp, fun x hx => ?_, by simp, List.Pairwise.nil⟩
    rcases List.mem_cons.1 hx with rfl | hx
    · exact ⟨o1, o2⟩
    · have := ih.2.1 x hx
      exact ⟨by omega, this.2⟩
  | e :: l1, l2, p, h => by
    rw [List.cons_append, okL_cons] at h
    obtain ⟨o1, o2, o3, o4⟩ := h
    obtain ⟨i1, i2, i3, i4⟩ := okL_app o4
    refine ⟨fun x hx => ?_, fun x hx => ?_, fun x hx y hy => ?_, List.pairwise_cons.2 ⟨fun x hx => ?_, i4⟩⟩
    · rcases List.mem_cons.1 hx with rfl | hx
      · omega
      · have := i1 x hx; omega
    · have := i2 x hx
      exact ⟨by omega, this.2⟩
    · rcases List.mem_cons.1 hx with rfl | hx
      · exact (i2 y hy).1
      · exact i3 x hx y hy
    · have := i1 x hx; omega
theorem disjoint_bytes {src : ByteArray} {l1 l2 : List S43} (hok : okL (src.size : Int) (-1) (l1 ++ l2) = true) : (merged src l1 l2).1.map Prod.fst = bs (midB src (l1 ++ l2)) := by
  obtain ⟨i1, i2, i3, i4⟩ := okL_app hok
  have := tl_disjoint (bs src) src.size 0 l1 0 [] l2 0 [] ⟨i3, i4, fun e he => (i2 e he).2, fun e he => by have := i1 e he; omega⟩
  rw [pap_zero src _ hok] at this
  exact this

theorem dj_j0 (src : ByteArray) (l1 l2 : List S43) (hl0 : l1.length * 32 ≤ 140737488351232) (hl1 : l2.length * 32 ≤ 140737488351232) (z1 : ∀ e ∈ l1, e.f2.size ≤ 140737488351232) (z2 : ∀ e ∈ l2, e.f2.size ≤ 140737488351232) (c : Bool) (hc : c = false → l1.length ≤ 50 ∧ l2.length ≤ 50) :
    Ev (fun k => glossatorkeep4_TexteditTransformDisjoint.j0 k src l1 l2 c) true := by
  obtain ⟨K0, h0⟩ := tex_ev
  dsimp only at h0
  have j1t : ∀ k a b c d, K0 + 1 ≤ k → glossatorkeep4_TexteditTransformDisjoint.j1 k a b c d true = some true := by
    intro k a b c d hk
    obtain ⟨k, rfl⟩ : ∃ m, k = m + 1 := ⟨k - 1, by omega⟩
    simp only [glossatorkeep4_TexteditTransformDisjoint.j1]
    rw [if_pos trivial, h0 _ (by omega)]
    rfl
  cases c with
  | true =>
    refine ⟨K0 + 1, fun k hk => ?_⟩
    obtain ⟨k, rfl⟩ : ∃ m, k = m + 1 := ⟨k - 1, by omega⟩
    simp only [glossatorkeep4_TexteditTransformDisjoint.j0]
    rw [if_pos trivial, h0 _ (by omega)]
    rfl
  | false =>
    obtain ⟨n1, n2⟩ := hc rfl
    have z3 : ∀ e ∈ l1 ++ l2, e.f2.size ≤ 140737488351232 := fun e he => (List.mem_append.1 he).elim (z1 e) (z2 e)
    obtain ⟨K1, h1⟩ := Apply_ev src (l1 ++ l2) z3
    obtain ⟨K2, h2⟩ := Transform_ev src l1 l2 z1 z2
    dsimp only at h1 h2
    by_cases g : (applyS src (l1 ++ l2)).2 = 0 ∧ (transS src l1 l2).2.2 = 0
    · obtain ⟨g1, g2⟩ := g
      have hT := (trans_of z1 z2).1 g2
      obtain ⟨hV, _⟩ := applyS_zero z3 g1
      obtain ⟨K3, h3⟩ := Apply_ev src l1 z1
      obtain ⟨K4, h4⟩ := Apply_ev (midB src l1) _ hT.sl
      dsimp only at h3 h4
      rw [applyS_valid z3 hV] at h1
      rw [applyS_valid z1 hT.v1] at h3
      rw [applyS_valid hT.sl hT.vl, bs_inj (hT.bl.trans (disjoint_bytes hV.ok))] at h4
      rw [hT.out] at h2
      refine ⟨K0 + K1 + K2 + K3 + K4 + 2, fun k hk => ?_⟩
      obtain ⟨k, rfl⟩ : ∃ m, k = m + 1 := ⟨k - 1, by omega⟩
      simp only [glossatorkeep4_TexteditTransformDisjoint.j0]
      rw [if_neg (by simp)]
      simp only [Option.bind_some, List.nil_append, List.length_nil]
      rw [if_pos (by omega), if_pos (by omega), h1 _ (by omega), h2 _ (by omega)]
      simp only [Option.bind_some, if_true]
      obtain ⟨k, rfl⟩ : ∃ m, k = m + 1 := ⟨k - 1, by omega⟩
      simp only [glossatorkeep4_TexteditTransformDisjoint.j1]
      rw [if_neg (by simp), h3 _ (by omega), h0 _ (by omega)]
      simp only [Option.bind_some, if_true]
      rw [h4 _ (by omega)]
      simp
    · refine ⟨K0 + K1 + K2 + 2, fun k hk => ?_⟩
      obtain ⟨k, rfl⟩ : ∃ m, k = m + 1 := ⟨k - 1, by omega⟩
      simp only [glossatorkeep4_TexteditTransformDisjoint.j0]
      rw [if_neg (by simp)]
      simp only [Option.bind_some, List.nil_append, List.length_nil]
      rw [if_pos (by omega), if_pos (by omega), h1 _ (by omega), h2 _ (by omega)]
      simp only [Option.bind_some]
      by_cases g1 : (applyS src (l1 ++ l2)).2 = 0
      · rw [if_pos g1, show ((transS src l1 l2).2.2 != 0) = true from bne_iff_ne.2 (fun g2 => g ⟨g1, g2⟩)]
        exact j1t _ _ _ _ _ (by omega)
      · rw [if_neg g1]
        exact j1t _ _ _ _ _ (by omega)
theorem TexteditTransformDisjoint_pure (src : ByteArray) (l1 l2 : List S43) (w0 : src.size ≤ 140737488351232) (hl0 : l1.length * 32 ≤ 140737488351232) (hs0 : ∀ y ∈ l1, (Lit.int .i64 y.f0).wf = true ∧ (Lit.int .i64 y.f1).wf = true ∧ y.f2.size ≤ 140737488351232)
    (hl1 : l2.length * 32 ≤ 140737488351232) (hs1 : ∀ y ∈ l2, (Lit.int .i64 y.f0).wf = true ∧ (Lit.int .i64 y.f1).wf = true ∧ y.f2.size ≤ 140737488351232) :
    ∃ k, glossatorkeep4_TexteditTransformDisjoint.f k src l1 l2 = some true := by
  have z1 : ∀ e ∈ l1, e.f2.size ≤ 140737488351232 := fun e he => (hs0 e he).2.2
  have z2 : ∀ e ∈ l2, e.f2.size ≤ 140737488351232 := fun e he => (hs1 e he).2.2
  obtain ⟨K0, h0⟩ := tex_ev
  obtain ⟨K1, h1⟩ := Validate_ev src l1
  obtain ⟨K2, h2⟩ := Validate_ev src l2
  obtain ⟨K3, h3⟩ := dj_j0 src l1 l2 hl0 hl1 z1 z2 true (fun h => by cases h)
  dsimp only at h0 h1 h2 h3
  by_cases g1 : vdS (src.size : Int) l1 = 0
  · by_cases g2 : vdS (src.size : Int) l2 = 0
    · have n1 := ((vdS_zero (by omega) z1).1 g1).len
      have n2 := ((vdS_zero (by omega) z2).1 g2).len
      obtain ⟨K4, h4⟩ := dj_j0 src l1 l2 hl0 hl1 z1 z2 false (fun _ => ⟨n1, n2⟩)
      dsimp only at h4
      have hj : ∀ c, glossatorkeep4_TexteditTransformDisjoint.j0 (K0 + K1 + K2 + K3 + K4) src l1 l2 c = some true := by
        intro c
        cases c
        · exact h4 _ (by omega)
        · exact h3 _ (by omega)
      refine ⟨K0 + K1 + K2 + K3 + K4, ?_⟩
      unfold glossatorkeep4_TexteditTransformDisjoint.f
      rw [h0 _ (by omega), h1 _ (by omega), h2 _ (by omega)]
      simp only [Option.bind_some, if_true]
      rw [if_pos g1, if_pos g2]
      by_cases g3 : (l1.length : Int) = 0
      · rw [if_pos g3]; exact hj _
      · rw [if_neg g3]
        by_cases g4 : (l2.length : Int) = 0
        · rw [if_pos g4]; exact hj _
        · rw [if_neg g4, w64 (x := (l1.length : Int) - 1) (by omega) (by omega), if_pos (by omega), if_pos (by omega), if_pos (by omega)]
          exact hj _
    · refine ⟨K0 + K1 + K2 + K3, ?_⟩
      unfold glossatorkeep4_TexteditTransformDisjoint.f
      rw [h0 _ (by omega), h1 _ (by omega), h2 _ (by omega)]
      simp only [Option.bind_some, if_true]
      rw [if_pos g1, if_neg g2]
      exact h3 _ (by omega)
  · refine ⟨K0 + K1 + K2 + K3, ?_⟩
    unfold glossatorkeep4_TexteditTransformDisjoint.f
    rw [h0 _ (by omega), h1 _ (by omega), h2 _ (by omega)]
    simp only [Option.bind_some, if_true]
    rw [if_neg g1]
    exact h3 _ (by omega)
end Go.Proofs.Ytlhaeonjobcdbaa.PA
