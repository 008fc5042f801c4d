/- FuzzyEmptyPattern: the plain law. No walk. -/
import Derived.Test.YtldhhomeifjbeaaPAx13
import Derived.Test.YtldhhomeifjbeaaScoreP
namespace Go.Proofs.Ytldhhomeifjbeaa.Pure
open Go.RowKit Go.Proofs.Ytldhhomeifjbeaa.PA Go.Proofs.YtldhhomeifjbeaaW.PrintWords Go.Proofs.YtldhhomeifjbeaaW.PrintLast
set_option linter.unusedVariables false
set_option linter.unusedSimpArgs false
theorem score_empty (n : ByteArray) (k : Nat) (hk : 200 ≤ k) : fuzzy_Score.f k ⟨#[]⟩ n = some (0, [], decide (n.size ≤ 30)) := by
  obtain ⟨s, offs, ok, hf, hs⟩ := score_said ⟨#[]⟩ n k hk
  rw [hf]
  have h0 : (⟨#[]⟩ : ByteArray).size = 0 := rfl
  rcases hs with ⟨rfl, rfl, rfl, hno⟩ | ⟨rfl, _, hn, o, rfl, hsa, hsc, _⟩
  · by_cases hn : n.size ≤ 30
    · exact absurd (show SA ⟨#[]⟩ n 0 (-1) [] from rfl) (hno (by rw [h0]; omega) hn [])
    · rw [decide_eq_false hn]
  · rw [decide_eq_true hn]
    cases o with
    | nil => rw [hsc]; rfl
    | cons x r =>
      have := hsa.1
      rw [h0] at this
      omega
theorem scores_empty (k : Nat) (hk : 200 ≤ k) : ∀ l : List ByteArray, scoresL k ⟨#[]⟩ l = some (l.map (fun n => ((0 : Int), decide (n.size ≤ 30))))
  | [] => rfl
  | n :: r => by
    simp only [scoresL]
    rw [score_empty n k hk, Option.bind_some, scores_empty k hk r]
    rfl
theorem ok_empty (l : List ByteArray) (sc : List (Int × Bool)) (hsc : sc = l.map (fun n => ((0 : Int), decide (n.size ≤ 30)))) (i : Nat) (hi : i < l.length) : okAt sc i = decide ((nmAt l i).size ≤ 30) := by
  unfold okAt nmAt
  rw [hsc, List.getD_eq_getElem?_getD, List.getElem?_map, List.getElem?_eq_getElem hi, List.getD_eq_getElem?_getD, List.getElem?_eq_getElem hi]
  rfl
theorem sc_empty (l : List ByteArray) (sc : List (Int × Bool)) (hsc : sc = l.map (fun n => ((0 : Int), decide (n.size ≤ 30)))) (i : Nat) : scAt sc i = 0 := by
  unfold scAt
  split
  · rw [hsc, List.getD_eq_getElem?_getD, List.getElem?_map]
    cases l[i]? <;> rfl
  · rfl
theorem lt_size (l : List ByteArray) (sc : List (Int × Bool)) (hsc : sc = l.map (fun n => ((0 : Int), decide (n.size ≤ 30)))) (x y : Nat) (h : ltAt l sc x y = true) : (nmAt l x).size ≤ (nmAt l y).size := by
  rw [ltAt_iff] at h
  have hc : cfAt l sc x y = PA.andThen 0 (PA.andThen (Lib.compareInt ((nmAt l x).size : Int) ((nmAt l y).size : Int)) (Lib.compareBytes (nmAt l x).data.toList (nmAt l y).data.toList)) := by
    unfold cfAt cmpP
    rw [sc_empty l sc hsc, sc_empty l sc hsc]
    rfl
  by_cases hs : (nmAt l x).size ≤ (nmAt l y).size
  · exact hs
  · exfalso
    have h1 : Lib.compareInt ((nmAt l x).size : Int) ((nmAt l y).size : Int) = 1 := by
      unfold Lib.compareInt
      rw [if_neg (by omega), if_pos (by omega)]
    rw [h1] at hc
    have h2 : cfAt l sc x y = 1 := hc
    omega
theorem rd_of (l : List ByteArray) (i : Nat) (hi : i < l.length) : rdOf ByteArray.empty l (i : Int) = nmAt l i := by
  unfold rdOf nmAt
  rw [Int.toNat_natCast, List.getD_eq_getElem?_getD, List.getElem?_eq_getElem hi, List.getD_eq_getElem?_getD, List.getElem?_eq_getElem hi]
  rfl
theorem rd_map (r : List Nat) (i : Nat) (hi : i < r.length) : rd (r.map (fun x : Nat => (x : Int))) (i : Int) = ((r[i]'hi : Nat) : Int) := by
  unfold rd
  rw [Int.toNat_natCast, List.getD_eq_getElem?_getD, List.getElem?_map, List.getElem?_eq_getElem hi]
  rfl
theorem loop1 (l : List ByteArray) (r : List Nat) (hr : ∀ x ∈ r, x < l.length) (hs : r.Pairwise (fun x y => (nmAt l x).size ≤ (nmAt l y).size)) (hl : r.length ≤ 1000) : ∀ (j i k : Nat), i + j = max r.length 1 → 1 ≤ i → 500 + j ≤ k → glossatorkeep4_FuzzyEmptyPattern.l1 k l (r.map (fun x : Nat => (x : Int))) (r.length : Int) (i : Int) = some true
  | 0, i, k, hij, hi, hk => by
    obtain ⟨k, rfl⟩ : ∃ q, k = q + 1 := ⟨k - 1, by omega⟩
    have hex := examples_true k (by omega)
    simp only [glossatorkeep4_FuzzyEmptyPattern.l1]
    rw [List.length_map, if_neg (by omega), hex]
    simp
  | j + 1, i, k, hij, hi, hk => by
    obtain ⟨k, rfl⟩ : ∃ q, k = q + 1 := ⟨k - 1, by omega⟩
    have hil : i < r.length := by omega
    have ih := loop1 l r hr hs hl j (i + 1) k (by omega) (by omega) (by omega)
    have hw : wrap64 ((i : Int) + 1) = ((i + 1 : Nat) : Int) := by rw [w64' (by omega) (by omega)]; omega
    have hw2 : wrap64 ((i : Int) - 1) = ((i - 1 : Nat) : Int) := by rw [w64' (by omega) (by omega)]; omega
    have h1 := hr (r[i]'hil) (List.getElem_mem hil)
    have h2 := hr (r[i - 1]'(by omega)) (List.getElem_mem (by omega))
    have h3 := List.pairwise_iff_getElem.1 hs (i - 1) i (by omega) hil (by omega)
    simp only [glossatorkeep4_FuzzyEmptyPattern.l1]
    rw [List.length_map, hw, hw2, rd_map r i hil, rd_map r (i - 1) (by omega), rd_of l _ h1, rd_of l _ h2]
    rw [if_pos (by omega), if_pos (by omega), if_pos (by omega), if_pos (by omega), if_pos (by omega), if_pos (by omega), if_pos (by omega), if_pos (by omega), if_neg (by omega)]
    exact ih
theorem loop0 (l : List ByteArray) (sc : List (Int × Bool)) (hsc : sc = l.map (fun n => ((0 : Int), decide (n.size ≤ 30)))) (idx : List Int) (hl : l.length ≤ 1000)
    (h1 : ∀ k, 2000 ≤ k → glossatorkeep4_FuzzyEmptyPattern.l1 k l idx ((hits sc l.length).length : Int) 1 = some true) : ∀ (j i k : Nat), i + j = l.length → 2001 + j ≤ k → glossatorkeep4_FuzzyEmptyPattern.l0 k l idx ((hits sc i).length : Int) (i : Int) = some true
  | 0, i, k, hij, hk => by
    obtain ⟨k, rfl⟩ : ∃ q, k = q + 1 := ⟨k - 1, by omega⟩
    simp only [glossatorkeep4_FuzzyEmptyPattern.l0]
    rw [if_neg (by omega), show i = l.length by omega]
    exact h1 k (by omega)
  | j + 1, i, k, hij, hk => by
    obtain ⟨k, rfl⟩ : ∃ q, k = q + 1 := ⟨k - 1, by omega⟩
    have hil : i < l.length := by omega
    have ih := loop0 l sc hsc idx hl h1 j (i + 1) k (by omega) (by omega)
    have hok := ok_empty l sc hsc i hil
    have hw : wrap64 ((i : Int) + 1) = ((i + 1 : Nat) : Int) := by rw [w64' (by omega) (by omega)]; omega
    have hlen := hits_len sc i
    have hw2 : wrap64 (((hits sc i).length : Int) + 1) = ((hits sc i).length : Int) + 1 := w64' (by omega) (by omega)
    simp only [glossatorkeep4_FuzzyEmptyPattern.l0]
    rw [if_pos (by omega), if_pos (by omega), rd_of l i hil, hw, hw2]
    by_cases hs : (nmAt l i).size ≤ 30
    · rw [if_pos (by omega)]
      rw [decide_eq_true hs] at hok
      rw [hits_take sc i hok, List.length_append] at ih
      exact ih
    · rw [if_neg (by omega)]
      rw [decide_eq_false hs] at hok
      rw [hits_skip sc i hok] at ih
      exact ih
theorem FuzzyEmptyPattern (l0 : List ByteArray) : ∃ k, glossatorkeep4_FuzzyEmptyPattern.f k l0 = some true := by
  obtain ⟨K, hK⟩ : ∃ K : Nat, 10000 ≤ K := ⟨10000, Nat.le_refl _⟩
  refine ⟨K, ?_⟩
  have hex := examples_true K (by omega)
  unfold glossatorkeep4_FuzzyEmptyPattern.f fuzzy_Rank.f
  rw [hex]
  simp only [Option.bind_some, if_true]
  by_cases hl : l0.length > 200
  · rw [if_pos hl]
    simp only [Option.bind_some]
    rw [if_neg (by decide)]
    rw [decide_eq_true (show (l0.length : Int) > 200 by omega)]
  · rw [if_neg hl, scores_empty K (by omega)]
    simp only [Option.bind_some]
    rw [if_pos trivial]
    obtain ⟨sc, hsc⟩ : ∃ sc, sc = l0.map (fun n => ((0 : Int), decide (n.size ≤ 30))) := ⟨_, rfl⟩
    rw [← hsc]
    have hrl : (isort (ltAt l0 sc) (hits sc l0.length)).length = (hits sc l0.length).length := isort_length _
    have hlen := hits_len sc l0.length
    have := loop0 l0 sc hsc (rankL l0 sc) (by omega) (fun k hk => by
      have := loop1 l0 (isort (ltAt l0 sc) (hits sc l0.length)) (fun x hx => by
        rw [isort_mem] at hx
        exact List.mem_range.1 (List.mem_filter.1 hx).1) ((rank_sorted l0 sc).imp (fun h => lt_size l0 sc hsc _ _ h)) (by omega) (max (isort (ltAt l0 sc) (hits sc l0.length)).length 1 - 1) 1 k (by omega) (Nat.le_refl _) (by omega)
      rw [hrl] at this
      exact this) l0.length 0 K (by omega) (by omega)
    exact this
end Go.Proofs.Ytldhhomeifjbeaa.Pure
namespace Go.Proofs.Ytldhhomeifjbeaa.PA
open Go.RowKit Go.Proofs.YtldhhomeifjbeaaW.PrintWords Go.Proofs.YtldhhomeifjbeaaW.PrintLast
/-- The same, with what a row knows of its argument. -/
theorem FuzzyEmptyPattern_pure (l0 : List ByteArray) (_ : l0.length * 16 ≤ 140737488351232) (_ : ∀ y ∈ l0, y.size ≤ 140737488351232) : ∃ k, glossatorkeep4_FuzzyEmptyPattern.f k l0 = some true := Pure.FuzzyEmptyPattern l0
end Go.Proofs.Ytldhhomeifjbeaa.PA
