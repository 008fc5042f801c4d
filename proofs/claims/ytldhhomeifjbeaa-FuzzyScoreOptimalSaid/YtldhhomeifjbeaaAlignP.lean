/- What validAlignment and FuzzyAlignmentScore answer: plain law. No walk. -/
import Derived.Test.YtldhhomeifjbeaaPAx10
import Derived.Test.YtldhhomeifjbeaaScoreP
namespace Go.Proofs.Ytldhhomeifjbeaa.PA
open Go.RowKit Go.Proofs.YtldhhomeifjbeaaW.PrintWords Go.Proofs.YtldhhomeifjbeaaW.PrintLast
set_option linter.unusedVariables false
set_option linter.unusedSimpArgs false

theorem up_eq' (a : Int) : fuzzy_isUpper.f a = some (upB a) := up_eq a
theorem low_eq' (a : Int) : fuzzy_lower.f a = some (lowB a) := low_eq a
theorem fold_eq' (a b : Int) : fuzzy_EqualFold.f a b = some (foldB a b) := fold_eq a b
def prevOf (l : List Int) (i : Nat) : Int := if i = 0 then -1 else rd l ((i : Int) - 1)
theorem prevOf_succ (l : List Int) (i : Nat) : prevOf l (i + 1) = rd l (i : Int) := by
  unfold prevOf
  rw [if_neg (by omega)]
  congr 1
  omega
theorem drop_rd (l : List Int) (i : Nat) (h : i < l.length) : l.drop i = rd l (i : Int) :: l.drop (i + 1) := by
  rw [List.drop_eq_getElem_cons h]
  unfold rd
  rw [Int.toNat_natCast, List.getD_eq_getElem?_getD, List.getElem?_eq_getElem h]
  rfl
theorem valid_loop (p n : ByteArray) (l : List Int) (hl : l.length = p.size) (hp : p.size ≤ 30) (hn : n.size ≤ 140737488351232) : ∀ (j i k : Nat), i + j = p.size → j + 1 ≤ k →
    ∃ b, glossatorkeep4_validAlignment.l0 k p n l (i : Int) = some b ∧ (b = true ↔ ∃ o : List Nat, l.drop i = o.map (fun x : Nat => (x : Int)) ∧ SA p n i (prevOf l i) o) := by
  intro j
  induction j with
  | zero =>
    intro i k hij hk
    obtain ⟨k, rfl⟩ : ∃ q, k = q + 1 := ⟨k - 1, by omega⟩
    refine ⟨true, ?_, ?_⟩
    · simp only [glossatorkeep4_validAlignment.l0]
      rw [if_neg (by omega)]
    · refine ⟨fun _ => ⟨[], ?_, by simp only [SA]; omega⟩, fun _ => rfl⟩
      rw [List.drop_eq_nil_of_le (by omega)]
      rfl
  | succ j ih =>
    intro i k hij hk
    obtain ⟨k, rfl⟩ : ∃ q, k = q + 1 := ⟨k - 1, by omega⟩
    obtain ⟨x, hx⟩ : ∃ x, x = rd l (i : Int) := ⟨_, rfl⟩
    have hd := drop_rd l i (by omega)
    rw [← hx] at hd
    have hfail : (¬ (prevOf l i < x ∧ 0 ≤ x ∧ x < (n.size : Int) ∧ foldB (bt p i) (bt n x) = true)) → ((false = true) ↔ ∃ o : List Nat, l.drop i = o.map (fun x : Nat => (x : Int)) ∧ SA p n i (prevOf l i) o) := by
      intro hno
      refine ⟨fun h => (Bool.false_ne_true h).elim, fun ⟨o, h1, h2⟩ => ?_⟩
      cases o with
      | nil =>
        have : i = p.size := h2
        omega
      | cons y r =>
        rw [hd] at h1
        simp only [List.map_cons, List.cons.injEq] at h1
        obtain ⟨_, a1, a2, a3, _⟩ := h2
        exact (hno ⟨by rw [h1.1]; exact a1, by omega, by omega, by rw [h1.1]; exact a3⟩).elim
    have hgo : ∀ b', (prevOf l i < x ∧ 0 ≤ x ∧ x < (n.size : Int) ∧ foldB (bt p i) (bt n x) = true) → (b' = true ↔ ∃ o : List Nat, l.drop (i + 1) = o.map (fun x : Nat => (x : Int)) ∧ SA p n (i + 1) (prevOf l (i + 1)) o) → (b' = true ↔ ∃ o : List Nat, l.drop i = o.map (fun x : Nat => (x : Int)) ∧ SA p n i (prevOf l i) o) := by
      rintro b' ⟨a1, a2, a3, a4⟩ hb
      rw [hb, prevOf_succ, ← hx]
      constructor
      · rintro ⟨o, h1, h2⟩
        refine ⟨x.toNat :: o, ?_, ?_⟩
        · rw [hd, h1]
          simp only [List.map_cons]
          congr 1
          omega
        · have hxx : ((x.toNat : Nat) : Int) = x := by omega
          refine ⟨by omega, by omega, by omega, by rw [hxx]; exact a4, ?_⟩
          rw [hxx]
          exact h2
      · rintro ⟨o, h1, h2⟩
        cases o with
        | nil =>
          have : i = p.size := h2
          omega
        | cons y r =>
          rw [hd] at h1
          simp only [List.map_cons, List.cons.injEq] at h1
          obtain ⟨_, _, _, _, h5⟩ := h2
          exact ⟨r, h1.2, by rw [h1.1]; exact h5⟩
    have hw : wrap64 ((i : Int) + 1) = ((i + 1 : Nat) : Int) := by rw [w64' (by omega) (by omega)]; omega
    obtain ⟨b', hb1, hb2⟩ := ih (i + 1) k (by omega) (by omega)
    simp only [glossatorkeep4_validAlignment.l0]
    rw [if_pos (show (i : Int) < (l.length : Int) by omega), if_pos (show (0 : Int) ≤ (i : Int) by omega), ← hx]
    by_cases c1 : x < 0
    · rw [if_pos c1]
      exact ⟨false, rfl, hfail (fun h => by omega)⟩
    · rw [if_neg c1]
      by_cases c2 : x ≥ (n.size : Int)
      · rw [if_pos c2]
        exact ⟨false, rfl, hfail (fun h => by omega)⟩
      · rw [if_neg c2]
        have hrest : ∀ (hpr : prevOf l i < x), ∃ b, (if (i : Int) < (p.size : Int) then (if 0 ≤ x then (if x < (n.size : Int) then ((fuzzy_EqualFold.f (bt p i) (bt n x)).bind fun t => (if t = true then (glossatorkeep4_validAlignment.l0 k p n l (wrap64 ((i : Int) + 1))) else (some false))) else (none)) else (none)) else (none)) = some b ∧ (b = true ↔ ∃ o : List Nat, l.drop i = o.map (fun x : Nat => (x : Int)) ∧ SA p n i (prevOf l i) o) := by
          intro hpr
          rw [if_pos (by omega), if_pos (by omega), if_pos (by omega), fold_eq', hw]
          simp only [Option.bind_some]
          by_cases c4 : foldB (bt p i) (bt n x) = true
          · rw [if_pos c4]
            exact ⟨b', hb1, hgo b' ⟨hpr, by omega, by omega, c4⟩ hb2⟩
          · rw [if_neg c4]
            exact ⟨false, rfl, hfail (fun h => c4 h.2.2.2)⟩
        by_cases c3 : (i : Int) > 0
        · rw [if_pos c3, w64' (x := (i : Int) - 1) (by omega) (by omega), if_pos (by omega), if_pos (by omega)]
          have hpv : prevOf l i = rd l ((i : Int) - 1) := by
            unfold prevOf
            rw [if_neg (by omega)]
          rw [← hpv]
          by_cases c5 : x ≤ prevOf l i
          · rw [if_pos c5]
            exact ⟨false, rfl, hfail (fun h => by omega)⟩
          · rw [if_neg c5]
            exact hrest (by omega)
        · rw [if_neg c3]
          refine hrest ?_
          unfold prevOf
          rw [if_pos (by omega)]
          omega
theorem valid_said (p n : ByteArray) (l : List Int) (hp : p.size ≤ 30) (hn : n.size ≤ 140737488351232) (k : Nat) (hk : 100 ≤ k) : ∃ b, glossatorkeep4_validAlignment.f k p n l = some b ∧ (b = true ↔ ∃ o : List Nat, l = o.map (fun x : Nat => (x : Int)) ∧ SA p n 0 (-1) o) := by
  unfold glossatorkeep4_validAlignment.f
  by_cases hl : (l.length : Int) = (p.size : Int)
  · rw [if_pos hl]
    have := valid_loop p n l (by omega) hp hn p.size 0 k (by omega) (by omega)
    simpa [prevOf] using this
  · rw [if_neg hl]
    refine ⟨false, rfl, fun h => (Bool.false_ne_true h).elim, fun ⟨o, h1, h2⟩ => ?_⟩
    have hlen : ∀ (o : List Nat) (i : Nat) (prev : Int), SA p n i prev o → i + o.length = p.size := by
      intro o
      induction o with
      | nil =>
        intro i prev h
        simp only [SA] at h
        simpa using h
      | cons x r ih =>
        intro i prev h
        have := ih (i + 1) x h.2.2.2.2
        simp only [List.length_cons]
        omega
    have := hlen o 0 (-1) h2
    rw [h1, List.length_map] at hl
    omega
theorem bonus_eq (l : List Int) (i x : Nat) (hi : 0 < i) (hi2 : i ≤ 30) (hpv : 0 ≤ prevOf l i) (hpv2 : prevOf l i ≤ 140737488351232) : ((x : Int) = wrap64 ((rd l (wrap64 ((i : Int) - 1))) + 1)) = (0 ≤ prevOf l i ∧ (x : Int) = prevOf l i + 1) := by
  have e1 : wrap64 ((i : Int) - 1) = (i : Int) - 1 := w64' (by omega) (by omega)
  have e2 : rd l ((i : Int) - 1) = prevOf l i := by
    unfold prevOf
    rw [if_neg (by omega)]
  have e3 : wrap64 (prevOf l i + 1) = prevOf l i + 1 := w64' (by omega) (by omega)
  rw [e1, e2, e3]
  exact propext ⟨fun h => ⟨hpv, h⟩, fun h => h.2⟩
def bonP (l : List Int) (i x : Nat) : Int := if 0 ≤ prevOf l i ∧ (x : Int) = prevOf l i + 1 then 3 else 0
theorem bonP_range (l : List Int) (i x : Nat) : 0 ≤ bonP l i x ∧ bonP l i x ≤ 3 := by
  unfold bonP
  split <;> omega
theorem j3_eq (k : Nat) (p n : ByteArray) (l : List Int) (acc : Int) (i x : Nat) (st : Bool) (R : Int) (hi2 : i < 30) (hil : i < l.length) (hpv : 0 < i → 0 ≤ prevOf l i ∧ prevOf l i ≤ 140737488351232) (b0 : 0 ≤ acc) (b1 : acc ≤ 100 * (i : Int) + 2)
    (next : ∀ a : Int, 0 ≤ a → a ≤ 100 * ((i + 1 : Nat) : Int) → glossatorref4_FuzzyAlignmentScore.l0 k p n l a ((i + 1 : Nat) : Int) = some (a + R)) :
    glossatorref4_FuzzyAlignmentScore.j3 (k + 1) p n l acc (i : Int) (x : Int) st = some (acc + (if st = true then 4 else 0) + bonP l i x + R) := by
  have hw : wrap64 ((i : Int) + 1) = ((i + 1 : Nat) : Int) := by rw [w64' (by omega) (by omega)]; omega
  have e1 : wrap64 ((i : Int) - 1) = (i : Int) - 1 ∨ i = 0 := by
    rcases Nat.eq_zero_or_pos i with h | h
    · exact .inr h
    · exact .inl (w64' (by omega) (by omega))
  have e4 : wrap64 (acc + 4) = acc + 4 := w64' (by omega) (by omega)
  have e3 : wrap64 (acc + 3) = acc + 3 := w64' (by omega) (by omega)
  have e7 : wrap64 (acc + 4 + 3) = acc + 4 + 3 := w64' (by omega) (by omega)
  have n0 := next acc b0 (by omega)
  have n3 := next (acc + 3) (by omega) (by omega)
  have n4 := next (acc + 4) (by omega) (by omega)
  have n7 := next (acc + 4 + 3) (by omega) (by omega)
  simp only [glossatorref4_FuzzyAlignmentScore.j3, hw, e4, e3, e7, n0, n3, n4, n7]
  clear next n0 n3 n4 n7 e4 e3 e7 hw
  by_cases hi : i = 0
  · subst hi
    have hb : bonP l 0 x = 0 := by
      unfold bonP prevOf
      simp
    rw [hb]
    cases st <;> simp
  · have hp := hpv (by omega)
    have e1' := e1.resolve_right hi
    have h1 : ((i : Int) > 0) = True := eq_true (by omega)
    have h2 : (0 ≤ wrap64 ((i : Int) - 1)) = True := eq_true (by rw [e1']; omega)
    have h3 : (wrap64 ((i : Int) - 1) < (l.length : Int)) = True := eq_true (by rw [e1']; omega)
    simp only [h1, h2, h3, if_true, bonus_eq l i x (by omega) (by omega) hp.1 hp.2]
    unfold bonP
    by_cases hb : 0 ≤ prevOf l i ∧ (x : Int) = prevOf l i + 1
    · simp only [if_pos hb]
      cases st <;> simp
    · simp only [if_neg hb]
      cases st <;> simp
theorem j2_eq (k : Nat) (p n : ByteArray) (l : List Int) (acc : Int) (i x : Nat) (R : Int) (hx : x < n.size) (hn : n.size ≤ 140737488351232)
    (h3 : ∀ st : Bool, glossatorref4_FuzzyAlignmentScore.j3 k p n l acc (i : Int) (x : Int) st = some (acc + (if st = true then 4 else 0) + bonP l i x + R)) :
    glossatorref4_FuzzyAlignmentScore.j2 (k + 1) p n l acc (i : Int) (x : Int) (upB (bt n x)) = some (acc + (if startB n x = true then 4 else 0) + bonP l i x + R) := by
  simp only [glossatorref4_FuzzyAlignmentScore.j2, h3]
  clear h3
  unfold startB
  by_cases hz : (x : Int) = 0
  · simp [hz]
  · have e1 : wrap64 ((x : Int) - 1) = (x : Int) - 1 := w64' (by omega) (by omega)
    rw [if_neg hz, e1, if_pos (by omega), if_pos (by omega)]
    by_cases h95 : bt n ((x : Int) - 1) = 95
    · simp [h95]
    · rw [if_neg h95]
      unfold upB
      by_cases h65 : bt n ((x : Int) - 1) ≥ 65
      · have h65' : 65 ≤ bt n ((x : Int) - 1) := h65
        simp only [if_pos h65, hz, h95, h65', decide_true, decide_false, Bool.true_and, Bool.false_or, Bool.and_eq_true]
        split
        · rename_i hu
          simp [hu]
        · rename_i hu
          have hu' : ¬ (65 ≤ bt n (x : Int) ∧ bt n (x : Int) ≤ 90) := by simpa using hu
          simp
          rw [if_neg (fun h => hu' h.1)]
          simp
      · have h65' : ¬ 65 ≤ bt n ((x : Int) - 1) := h65
        simp only [if_neg h65, hz, h95, h65', decide_false, Bool.false_and, Bool.false_or, Bool.not_false, Bool.and_true]
        split
        · rename_i hu
          simp [hu]
        · rename_i hu
          simp [hu]
theorem j1_eq (k : Nat) (p n : ByteArray) (l : List Int) (acc : Int) (i x : Nat) (R : Int) (hx : x < n.size)
    (h2 : glossatorref4_FuzzyAlignmentScore.j2 k p n l acc (i : Int) (x : Int) (upB (bt n x)) = some R) :
    glossatorref4_FuzzyAlignmentScore.j1 (k + 1) p n l acc (i : Int) (x : Int) = some R := by
  simp only [glossatorref4_FuzzyAlignmentScore.j1]
  rw [if_pos (by omega), if_pos (by omega)]
  unfold upB at h2
  by_cases h65 : bt n x ≥ 65
  · rw [if_pos h65]
    have h65' : 65 ≤ bt n x := h65
    simpa only [h65', decide_true, Bool.true_and] using h2
  · rw [if_neg h65]
    have h65' : ¬ 65 ≤ bt n x := h65
    simpa only [h65', decide_false, Bool.false_and] using h2
theorem asc_loop (p n : ByteArray) (l : List Int) (hl : l.length = p.size) (hp : p.size ≤ 30) (hn : n.size ≤ 140737488351232) : ∀ (o : List Nat) (i k : Nat) (acc : Int), SA p n i (prevOf l i) o → l.drop i = o.map (fun x : Nat => (x : Int)) → 0 ≤ acc → acc ≤ 100 * (i : Int) → 4 * o.length + 1 ≤ k → (0 < i → 0 ≤ prevOf l i ∧ prevOf l i ≤ 140737488351232) →
    glossatorref4_FuzzyAlignmentScore.l0 k p n l acc (i : Int) = some (acc + sasc p n i (prevOf l i) o)
  | [], i, k, acc, hsa, hd, h0, h1, hk, hpv => by
    obtain ⟨k, rfl⟩ : ∃ q, k = q + 1 := ⟨k - 1, by omega⟩
    have hi : i = p.size := hsa
    simp only [glossatorref4_FuzzyAlignmentScore.l0, sasc]
    rw [if_neg (by omega), Int.add_zero]
  | x :: r, i, k, acc, hsa, hd, h0, h1, hk, hpv => by
    simp only [List.length_cons] at hk
    obtain ⟨k, rfl⟩ : ∃ q, k = q + 1 + 1 + 1 + 1 := ⟨k - 4, by omega⟩
    obtain ⟨a0, a1, a2, a3, a4⟩ := hsa
    have hd' := drop_rd l i (by omega)
    rw [hd'] at hd
    simp only [List.map_cons, List.cons.injEq] at hd
    obtain ⟨hx, hd2⟩ := hd
    have hprev : prevOf l (i + 1) = (x : Int) := by rw [prevOf_succ, hx]
    rw [← hprev] at a4
    have ih := fun acc h0 h1 => asc_loop p n l hl hp hn r (i + 1) k acc a4 hd2 h0 h1 (by omega) (fun _ => by rw [hprev]; omega)
    rw [hprev] at ih
    have h3 := fun acc b0 b1 st => j3_eq k p n l acc i x st (sasc p n (i + 1) x r) (by omega) (by omega) hpv b0 b1 ih
    have hj := fun acc b0 b1 => j1_eq (k + 1 + 1) p n l acc i x _ a2 (j2_eq (k + 1) p n l acc i x (sasc p n (i + 1) x r) a2 hn (h3 acc b0 b1))
    have hs : sasc p n i (prevOf l i) (x :: r) = ptP (bt p i) n x + bonP l i x + sasc p n (i + 1) x r := rfl
    rw [hs]
    have e1 : wrap64 (acc + 1) = acc + 1 := w64' (by omega) (by omega)
    have e2 : wrap64 (acc + 1 + 1) = acc + 1 + 1 := w64' (by omega) (by omega)
    have j1 := hj (acc + 1) (by omega) (by omega)
    have j2 := hj (acc + 1 + 1) (by omega) (by omega)
    clear hj h3 ih hs a4 hd2 hd'
    simp only [glossatorref4_FuzzyAlignmentScore.l0]
    rw [if_pos (by omega), if_pos (by omega), if_pos (by omega), hx, if_pos (by omega), if_pos (by omega), e1, e2, j1, j2]
    unfold ptP
    by_cases heq : bt p i = bt n x
    · rw [if_pos heq, if_pos heq]
      congr 1
      omega
    · rw [if_neg heq, if_neg heq]
      congr 1
      omega
theorem SA_length (p n : ByteArray) : ∀ (o : List Nat) (i : Nat) (prev : Int), SA p n i prev o → i + o.length = p.size
  | [], i, prev, h => by
    simp only [SA] at h
    simpa using h
  | x :: r, i, prev, h => by
    have := SA_length p n r (i + 1) x h.2.2.2.2
    simp only [List.length_cons]
    omega
theorem asc_said (p n : ByteArray) (o : List Nat) (hp : p.size ≤ 30) (hn : n.size ≤ 140737488351232) (h : SA p n 0 (-1) o) (k : Nat) (hk : 200 ≤ k) : glossatorref4_FuzzyAlignmentScore.f k p n (o.map (fun x : Nat => (x : Int))) = some (sasc p n 0 (-1) o) := by
  have hl := SA_length p n o 0 (-1) h
  have := asc_loop p n (o.map (fun x : Nat => (x : Int))) (by rw [List.length_map]; omega) hp hn o 0 k 0 h rfl (Int.le_refl _) (by omega) (by omega) (fun h => absurd h (by omega))
  unfold glossatorref4_FuzzyAlignmentScore.f
  rw [Int.zero_add] at this
  exact this
end Go.Proofs.Ytldhhomeifjbeaa.PA
