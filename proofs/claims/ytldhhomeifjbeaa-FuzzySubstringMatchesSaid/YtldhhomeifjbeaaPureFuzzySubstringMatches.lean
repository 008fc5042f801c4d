/- FuzzySubstringMatches: the plain law. No walk. -/
import Derived.Test.YtldhhomeifjbeaaPAx11
import Derived.Test.YtldhhomeifjbeaaScoreP
namespace Go.Proofs.Ytldhhomeifjbeaa.Pure
open Go.RowKit Go.Proofs.Ytldhhomeifjbeaa.PA Go.Proofs.YtldhhomeifjbeaaW.PrintWords Go.Proofs.YtldhhomeifjbeaaW.PrintLast
set_option linter.unusedVariables false
set_option linter.unusedSimpArgs false
theorem fold_refl (a : Int) : foldB a a = true := by simp [foldB]
/-- A part of a name, laid on itself. -/
theorem sa_part (p n : ByteArray) (q : Nat) (hq : q + p.size ≤ n.size) (he : ∀ i, i < p.size → bt p (i : Int) = bt n ((q + i : Nat) : Int)) : ∀ (j i : Nat) (prev : Int), i + j = p.size → prev < ((q + i : Nat) : Int) → SA p n i prev (List.range' (q + i) j)
  | 0, i, prev, hj, hp => by
    simp only [List.range'_zero, SA]
    omega
  | j + 1, i, prev, hj, hp => by
    have ih := sa_part p n q hq he j (i + 1) ((q + i : Nat) : Int) (by omega) (by omega)
    rw [List.range'_succ]
    refine ⟨by omega, hp, by omega, ?_, ih⟩
    rw [he i (by omega)]
    exact fold_refl _
theorem sa_room (p n : ByteArray) : ∀ (o : List Nat) (i : Nat) (prev : Int), SA p n i prev o → ∀ x r, o = x :: r → x + r.length < n.size
  | [], i, prev, h, x, r, e => by cases e
  | y :: [], i, prev, h, x, r, e => by
    simp only [List.cons.injEq] at e
    obtain ⟨rfl, rfl⟩ := e
    simpa using h.2.2.1
  | y :: z :: t, i, prev, h, x, r, e => by
    simp only [List.cons.injEq] at e
    obtain ⟨rfl, rfl⟩ := e
    have := sa_room p n (z :: t) (i + 1) y h.2.2.2.2 z t rfl
    have := h.2.2.2.2.2.1
    simp only [List.length_cons]
    omega
theorem sa_len (p n : ByteArray) : ∀ (o : List Nat) (i : Nat) (prev : Int), SA p n i prev o → i + o.length = p.size
  | [], i, prev, h => by
    simp only [SA] at h
    simpa using h
  | x :: r, i, prev, h => by
    have := sa_len p n r (i + 1) x h.2.2.2.2
    simp only [List.length_cons]
    omega
/-- A name is laid on itself in one way. -/
theorem sa_self (p : ByteArray) : ∀ (o : List Nat) (i : Nat) (prev : Int), SA p p i prev o → (i : Int) - 1 ≤ prev → o = List.range' i o.length
  | [], i, prev, h, hp => rfl
  | x :: r, i, prev, h, hp => by
    have h1 := sa_room p p (x :: r) i prev h x r rfl
    have h2 := sa_len p p r (i + 1) x h.2.2.2.2
    have h3 := h.2.1
    have hx : x = i := by omega
    subst hx
    have ih := sa_self p r (x + 1) (x : Int) h.2.2.2.2 (by omega)
    rw [List.length_cons, List.range'_succ, ← ih]
theorem loop_self (a0 : ByteArray) (a1 a2 : Int) (hs : a0.size ≤ 30) (o : List Nat) (ho : o = List.range' 0 a0.size) (h2 : ∀ (b : Bool) (k : Nat), 500 ≤ k → (b = false → 0 ≤ a1 ∧ a1 ≤ a2 ∧ a2 ≤ (a0.size : Int)) → glossatorkeep4_FuzzySubstringMatches.j2 k a0 a1 a2 b = some true) : ∀ (j i k : Nat), i + j = a0.size → 600 + j ≤ k → glossatorkeep4_FuzzySubstringMatches.l0 k a0 a1 a2 (o.map (fun x : Nat => (x : Int))) (i : Int) = some true
  | 0, i, k, hij, hk => by
    obtain ⟨k, rfl⟩ : ∃ q, k = q + 1 := ⟨k - 1, by omega⟩
    have hl : (o.map (fun x : Nat => (x : Int))).length = a0.size := by rw [ho]; simp
    simp only [glossatorkeep4_FuzzySubstringMatches.l0]
    rw [hl, if_neg (by omega)]
    by_cases c1 : a1 < 0
    · rw [if_pos c1]
      exact h2 true k (by omega) (fun h => by cases h)
    · rw [if_neg c1]
      by_cases c2 : a2 < a1
      · rw [if_pos c2]
        exact h2 true k (by omega) (fun h => by cases h)
      · rw [if_neg c2]
        refine h2 _ k (by omega) (fun h => ?_)
        have := of_decide_eq_false h
        omega
  | j + 1, i, k, hij, hk => by
    obtain ⟨k, rfl⟩ : ∃ q, k = q + 1 := ⟨k - 1, by omega⟩
    have hl : (o.map (fun x : Nat => (x : Int))).length = a0.size := by rw [ho]; simp
    have hrd : rd (o.map (fun x : Nat => (x : Int))) (i : Int) = (i : Int) := by
      unfold rd
      rw [Int.toNat_natCast, List.getD_eq_getElem?_getD, List.getElem?_eq_getElem (by omega)]
      simp [ho]
    have ih := loop_self a0 a1 a2 hs o ho h2 j (i + 1) k (by omega) (by omega)
    have hw : wrap64 ((i : Int) + 1) = ((i + 1 : Nat) : Int) := by rw [w64' (by omega) (by omega)]; omega
    simp only [glossatorkeep4_FuzzySubstringMatches.l0]
    rw [hl, if_pos (by omega), if_pos (by omega), hrd, if_pos rfl, hw]
    exact ih
theorem bt_extract (s : ByteArray) (a b i : Nat) (hb : b ≤ s.size) (h : i < b - a) : bt (s.extract a b) (i : Int) = bt s ((a + i : Nat) : Int) := by
  unfold bt
  simp only [Int.toNat_natCast]
  have h1 : i < (s.extract a b).size := by
    rw [ByteArray.size_extract]
    omega
  rw [dif_pos h1, dif_pos (show a + i < s.size by omega), ByteArray.getElem_extract]
theorem FuzzySubstringMatches : glossatorkeep4_FuzzySubstringMatches.Pure := by
  intro a0 a1 a2 w0 w1 w2
  obtain ⟨K, hK⟩ : ∃ K : Nat, 1000 ≤ K := ⟨1000, Nat.le_refl _⟩
  refine ⟨K + 1, ?_⟩
  obtain ⟨s, offs, ok, hf, hs⟩ := score_said a0 a0 (K + 1) (by omega)
  have hex := examples_true (K + 1) (by omega)
  unfold glossatorkeep4_FuzzySubstringMatches.f
  rw [hex]
  simp only [Option.bind_some, if_true]
  rw [hf]
  simp only [Option.bind_some]
  by_cases hbig : (a0.size : Int) > 30
  · rw [if_pos hbig]
    rcases hs with ⟨rfl, rfl, rfl, _⟩ | ⟨rfl, hp, _⟩
    · rfl
    · omega
  · rw [if_neg hbig]
    have hself := sa_part a0 a0 0 (by omega) (fun i hi => by rw [Nat.zero_add]) a0.size 0 (-1) (by omega) (by omega)
    rcases hs with ⟨rfl, rfl, rfl, hno⟩ | ⟨rfl, hp, hn, o, rfl, hsa, hsc, hmax⟩
    · exact absurd hself (hno (by omega) (by omega) _)
    · have hlen := sa_len a0 a0 o 0 (-1) hsa
      have ho := sa_self a0 o 0 (-1) hsa (by omega)
      have hol : o.length = a0.size := by omega
      rw [hol] at ho
      rw [if_pos rfl]
      have hne : (((o.map (fun x : Nat => (x : Int))).length : Int) != (a0.size : Int)) = false := by
        rw [List.length_map, hol]
        simp
      rw [hne]
      simp only [glossatorkeep4_FuzzySubstringMatches.j0]
      rw [if_neg (by decide)]
      refine loop_self a0 a1 a2 hp o ho (fun b k hk hb => ?_) a0.size 0 K (by omega) (by omega)
      obtain ⟨k, rfl⟩ : ∃ q, k = q + 1 := ⟨k - 1, by omega⟩
      have hexk := examples_true k (by omega)
      simp only [glossatorkeep4_FuzzySubstringMatches.j2]
      cases b with
      | true =>
        rw [if_pos rfl, hexk]
        rfl
      | false =>
        obtain ⟨b1, b2, b3⟩ := hb rfl
        rw [if_neg (by decide), if_pos b1, if_pos b2, if_pos b3]
        obtain ⟨s2, offs2, ok2, hf2, hs2⟩ := score_said (a0.extract a1.toNat a2.toNat) a0 k (by omega)
        rw [hf2]
        simp only [Option.bind_some]
        rw [hexk]
        simp only [Option.bind_some, if_true]
        have hes : (a0.extract a1.toNat a2.toNat).size = a2.toNat - a1.toNat := by
          rw [ByteArray.size_extract]
          omega
        have hpart := sa_part (a0.extract a1.toNat a2.toNat) a0 a1.toNat (by omega) (fun i hi => bt_extract a0 _ _ i (by omega) (by omega)) (a0.extract a1.toNat a2.toNat).size 0 (-1) (by omega) (by omega)
        rcases hs2 with ⟨rfl, rfl, rfl, hno⟩ | ⟨rfl, _⟩
        · exact absurd hpart (hno (by omega) (by omega) _)
        · rfl
end Go.Proofs.Ytldhhomeifjbeaa.Pure
