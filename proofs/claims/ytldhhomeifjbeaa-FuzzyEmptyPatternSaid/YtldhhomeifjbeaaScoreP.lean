/- fuzzy.Score: the returned alignment is an optimum: plain law. No walk. · The examples of chapter 52 hold. No walk. -/
import Derived.Test.YtldhhomeifjbeaaPAx2
import Derived.Test.YtldhhomeifjbeaaPAx7
namespace Go.Proofs.Ytldhhomeifjbeaa.PA
open Go.RowKit Go.Proofs.YtldhhomeifjbeaaW.PrintWords Go.Proofs.YtldhhomeifjbeaaW.PrintLast
set_option linter.unusedVariables false
set_option linter.unusedSimpArgs false

/-- An alignment of the pattern's bytes from i on, behind prev. -/
def SA (p n : ByteArray) : Nat → Int → List Nat → Prop
  | i, _, [] => i = p.size
  | i, prev, x :: r => i < p.size ∧ prev < (x : Int) ∧ x < n.size ∧ foldB (bt p i) (bt n x) = true ∧ SA p n (i + 1) x r
def sasc (p n : ByteArray) : Nat → Int → List Nat → Int
  | _, _, [] => 0
  | i, prev, x :: r => ptP (bt p i) n x + (if 0 ≤ prev ∧ (x : Int) = prev + 1 then 3 else 0) + sasc p n (i + 1) x r
theorem sasc_nonneg (p n : ByteArray) : ∀ (o : List Nat) (i : Nat) (prev : Int), 0 ≤ sasc p n i prev o
  | [], i, prev => by simp [sasc]
  | x :: r, i, prev => by
    have h := pt_range (bt p i) n (x : Int)
    have ih := sasc_nonneg p n r (i + 1) x
    simp only [sasc]
    split <;> omega
def Opt (p n : ByteArray) (i : Nat) (prev v : Int) : Prop := (v = -1 ∧ ∀ o, ¬ SA p n i prev o) ∨ (0 ≤ v ∧ (∃ o, SA p n i prev o ∧ sasc p n i prev o = v) ∧ ∀ o, SA p n i prev o → sasc p n i prev o ≤ v)

/-! ### best -/
def adj (prev : Int) (x i : Int) : Int := if x ≠ -1 ∧ 0 ≤ prev ∧ i = prev + 1 then x + 3 else x
theorem bestL_spec (prev : Int) : ∀ (l : List Int) (i s o : Int), (bestL prev l i s o = (s, o) ∧ ∀ k (h : k < l.length), adj prev (l[k]) (i + k) ≤ s) ∨
    (∃ k, ∃ h : k < l.length, bestL prev l i s o = (adj prev (l[k]) (i + k), i + k) ∧ s < adj prev (l[k]) (i + k) ∧ ∀ k' (h' : k' < l.length), adj prev (l[k']) (i + k') ≤ adj prev (l[k]) (i + k))
  | [], i, s, o => .inl ⟨rfl, fun k h => by simp at h⟩
  | x :: r, i, s, o => by
    have e : bestL prev (x :: r) i s o = if adj prev x i > s then bestL prev r (i + 1) (adj prev x i) i else bestL prev r (i + 1) s o := rfl
    have hk : ∀ k : Nat, i + 1 + (k : Int) = i + ((k + 1 : Nat) : Int) := fun k => by omega
    by_cases hc : adj prev x i > s
    · rw [e, if_pos hc]
      rcases bestL_spec prev r (i + 1) (adj prev x i) i with ⟨h1, h2⟩ | ⟨k, h, h1, h2, h3⟩
      · refine .inr ⟨0, by simp, ?_, ?_, ?_⟩
        · rw [h1]
          simp
        · simpa using hc
        · intro k' h'
          cases k' with
          | zero => simp
          | succ k' =>
            have := h2 k' (by simpa using h')
            rw [hk] at this
            simpa using this
      · refine .inr ⟨k + 1, by simpa using h, ?_, ?_, ?_⟩
        · rw [h1, hk]
          rfl
        · rw [hk] at h2
          have h2' : adj prev x i < adj prev (r[k]) (i + ((k + 1 : Nat) : Int)) := h2
          simpa using (show s < adj prev (r[k]) (i + ((k + 1 : Nat) : Int)) by omega)
        · intro k' h'
          cases k' with
          | zero =>
            rw [hk] at h2
            simp only [List.getElem_cons_zero, List.getElem_cons_succ]
            have : i + ((0 : Nat) : Int) = i := by omega
            rw [this]
            omega
          | succ k' =>
            have := h3 k' (by simpa using h')
            rw [hk, hk] at this
            simpa using this
    · rw [e, if_neg hc]
      rcases bestL_spec prev r (i + 1) s o with ⟨h1, h2⟩ | ⟨k, h, h1, h2, h3⟩
      · refine .inl ⟨h1, fun k' h' => ?_⟩
        cases k' with
        | zero =>
          have : i + ((0 : Nat) : Int) = i := by omega
          simp only [List.getElem_cons_zero, this]
          omega
        | succ k' =>
          have := h2 k' (by simpa using h')
          rw [hk] at this
          simpa using this
      · refine .inr ⟨k + 1, by simpa using h, ?_, ?_, ?_⟩
        · rw [h1, hk]
          rfl
        · rw [hk] at h2
          simpa using h2
        · intro k' h'
          cases k' with
          | zero =>
            rw [hk] at h2
            simp only [List.getElem_cons_zero, List.getElem_cons_succ]
            have : i + ((0 : Nat) : Int) = i := by omega
            rw [this]
            omega
          | succ k' =>
            have := h3 k' (by simpa using h')
            rw [hk, hk] at this
            simpa using this
theorem bestP_spec (row : List Int) (prev : Int) (hp : -1 ≤ prev) : (bestP row prev = (-1, -1) ∧ ∀ off : Nat, prev < (off : Int) → (h : off < row.length) → adj prev (row[off]) off ≤ -1) ∨
    (∃ off : Nat, ∃ h : off < row.length, prev < (off : Int) ∧ bestP row prev = (adj prev (row[off]) off, (off : Int)) ∧ -1 < adj prev (row[off]) off ∧ ∀ off' : Nat, prev < (off' : Int) → (h' : off' < row.length) → adj prev (row[off']) off' ≤ adj prev (row[off]) off) := by
  unfold bestP
  obtain ⟨q, hq⟩ : ∃ q, q = (prev + 1).toNat := ⟨_, rfl⟩
  have hqp : (q : Int) = prev + 1 := by omega
  rw [← hq, ← hqp]
  rcases bestL_spec prev (row.drop q) (q : Int) (-1) (-1) with ⟨h1, h2⟩ | ⟨k, h, h1, h2, h3⟩
  · refine .inl ⟨h1, fun off ho hl => ?_⟩
    have := h2 (off - q) (by rw [List.length_drop]; omega)
    rw [List.getElem_drop] at this
    have e1 : (q : Int) + ((off - q : Nat) : Int) = (off : Int) := by omega
    rw [e1] at this
    have e2 : q + (off - q) = off := by omega
    simpa only [e2] using this
  · rw [List.length_drop] at h
    rw [List.getElem_drop] at h1 h2
    have e1 : (q : Int) + (k : Int) = ((q + k : Nat) : Int) := by omega
    rw [e1] at h1 h2
    refine .inr ⟨q + k, by omega, by omega, h1, h2, fun off ho hl => ?_⟩
    have := h3 (off - q) (by rw [List.length_drop]; omega)
    rw [List.getElem_drop, List.getElem_drop] at this
    have e3 : (q : Int) + ((off - q : Nat) : Int) = (off : Int) := by omega
    rw [e3, e1] at this
    have e2 : q + (off - q) = off := by omega
    simpa only [e2] using this

/-! ### the table's rows -/
/-- The row of the pattern's byte p.size - j. -/
def rowF (p n : ByteArray) : Nat → List Int
  | 0 => []
  | j + 1 => (List.range n.size).map (fun off : Nat => if foldB (bt p ((p.size - (j + 1) : Nat) : Int)) (bt n off) = true then (if (if j = 0 then 0 else (bestP (rowF p n j) off).1) = -1 then -1 else ptP (bt p ((p.size - (j + 1) : Nat) : Int)) n off + (if j = 0 then 0 else (bestP (rowF p n j) off).1)) else -1)
theorem rowF_length (p n : ByteArray) (j : Nat) (hj : 0 < j) : (rowF p n j).length = n.size := by
  cases j with
  | zero => omega
  | succ j => simp [rowF]
theorem rowF_get (p n : ByteArray) (j off : Nat) (h : off < (rowF p n (j + 1)).length) : (rowF p n (j + 1))[off] = if foldB (bt p ((p.size - (j + 1) : Nat) : Int)) (bt n off) = true then (if (if j = 0 then 0 else (bestP (rowF p n j) off).1) = -1 then -1 else ptP (bt p ((p.size - (j + 1) : Nat) : Int)) n off + (if j = 0 then 0 else (bestP (rowF p n j) off).1)) else -1 := by
  have hh : off < ((List.range n.size).map (fun off : Nat => if foldB (bt p ((p.size - (j + 1) : Nat) : Int)) (bt n off) = true then (if (if j = 0 then 0 else (bestP (rowF p n j) off).1) = -1 then -1 else ptP (bt p ((p.size - (j + 1) : Nat) : Int)) n off + (if j = 0 then 0 else (bestP (rowF p n j) off).1)) else -1)).length := h
  exact (show (rowF p n (j + 1))[off] = ((List.range n.size).map (fun off : Nat => if foldB (bt p ((p.size - (j + 1) : Nat) : Int)) (bt n off) = true then (if (if j = 0 then 0 else (bestP (rowF p n j) off).1) = -1 then -1 else ptP (bt p ((p.size - (j + 1) : Nat) : Int)) n off + (if j = 0 then 0 else (bestP (rowF p n j) off).1)) else -1))[off]'hh from rfl).trans (by rw [List.getElem_map, List.getElem_range])
theorem rowP_eq (p n : ByteArray) (T : List (List Int)) (i : Nat) (hi : i < p.size) (h : i + 1 < p.size → T.getD (i + 1) [] = rowF p n (p.size - (i + 1))) : rowP p n T i = rowF p n (p.size - i) := by
  obtain ⟨j, hj⟩ : ∃ j, p.size - i = j + 1 := ⟨p.size - i - 1, by omega⟩
  rw [hj]
  unfold rowP
  simp only [rowF]
  apply List.map_congr_left
  intro off _
  have e1 : p.size - (j + 1) = i := by omega
  unfold cellP
  rw [e1]
  by_cases hlast : i + 1 < p.size
  · rw [h hlast]
    have e2 : p.size - (i + 1) = j := by omega
    have e3 : j ≠ 0 := by omega
    simp only [e2, if_pos hlast, if_neg e3]
  · have e3 : j = 0 := by omega
    subst e3
    simp only [if_neg hlast, if_true]
theorem run_rows (p n : ByteArray) : ∀ t, t ≤ p.size → ∀ i, i < p.size → (runP p n (dn p.size t)).getD i [] = if p.size - t ≤ i then rowF p n (p.size - i) else []
  | 0, _, i, hi => by
    rw [if_neg (by omega)]
    show (List.replicate p.size ([] : List Int)).getD i [] = []
    rw [List.getD_eq_getElem?_getD, List.getElem?_replicate, if_pos hi]
    rfl
  | t + 1, ht, i, hi => by
    have ih := run_rows p n t (by omega)
    have e : dn p.size (t + 1) = dn p.size t ++ [p.size - 1 - t] := rfl
    rw [e, run_snoc]
    have hl := (run_bound p n (dn p.size t)).2
    by_cases hit : i = p.size - 1 - t
    · rw [hit, set_self (by omega), if_pos (by omega)]
      refine rowP_eq p n _ _ (by omega) (fun hlast => ?_)
      rw [ih _ hlast, if_pos (by omega)]
    · rw [set_other (fun e => hit e.symm), ih i hi]
      by_cases c : p.size - t ≤ i
      · rw [if_pos c, if_pos (by omega)]
      · rw [if_neg c, if_neg (by omega)]
def CellOk (p n : ByteArray) (i off : Nat) (c : Int) : Prop := (c = -1 ∧ ∀ r, ¬ (foldB (bt p i) (bt n off) = true ∧ SA p n (i + 1) off r)) ∨
  (0 ≤ c ∧ foldB (bt p i) (bt n off) = true ∧ (∃ r, SA p n (i + 1) off r ∧ ptP (bt p i) n off + sasc p n (i + 1) off r = c) ∧ ∀ r, SA p n (i + 1) off r → ptP (bt p i) n off + sasc p n (i + 1) off r ≤ c)
theorem opt_end (p n : ByteArray) (prev : Int) : Opt p n p.size prev 0 := by
  refine .inr ⟨Int.le_refl _, ⟨[], rfl, rfl⟩, fun o ho => ?_⟩
  cases o with
  | nil => exact Int.le_refl _
  | cons x r =>
    have := ho.1
    omega
theorem cell_of_opt (p n : ByteArray) (i off : Nat) (v : Int) (h : Opt p n (i + 1) (off : Int) v) : CellOk p n i off (if foldB (bt p i) (bt n off) = true then (if v = -1 then -1 else ptP (bt p i) n off + v) else -1) := by
  have hpt := pt_range (bt p i) n (off : Int)
  by_cases hf : foldB (bt p i) (bt n off) = true
  · rw [if_pos hf]
    rcases h with ⟨rfl, h⟩ | ⟨h0, ⟨r, h1, h2⟩, h3⟩
    · rw [if_pos rfl]
      exact .inl ⟨rfl, fun r hr => h r hr.2⟩
    · rw [if_neg (by omega)]
      refine .inr ⟨by omega, hf, ⟨r, h1, by omega⟩, fun r hr => ?_⟩
      have := h3 r hr
      omega
  · rw [if_neg hf]
    exact .inl ⟨rfl, fun r hr => hf hr.1⟩
theorem opt_of_cells (p n : ByteArray) (i : Nat) (hi : i < p.size) (row : List Int) (hl : row.length = n.size) (hc : ∀ off : Nat, (h : off < row.length) → CellOk p n i off (row[off])) (prev : Int) (hp : -1 ≤ prev) : Opt p n i prev (bestP row prev).1 := by
  have hadj : ∀ (off : Nat) (c : Int) (r : List Nat), c ≠ -1 → sasc p n i prev (off :: r) = ptP (bt p i) n off + sasc p n (i + 1) off r + (adj prev c off - c) := by
    intro off c r hne
    simp only [sasc, adj]
    by_cases h : 0 ≤ prev ∧ (off : Int) = prev + 1
    · rw [if_pos h, if_pos ⟨hne, h⟩]
      omega
    · rw [if_neg h, if_neg (fun hh => h hh.2)]
      omega
  have hge : ∀ c off, c ≤ adj prev c off := by
    intro c off
    unfold adj
    split <;> omega
  rcases bestP_spec row prev hp with ⟨h1, h2⟩ | ⟨off, h, h1, h2, h3, h4⟩
  · rw [h1]
    refine .inl ⟨rfl, fun o ho => ?_⟩
    cases o with
    | nil =>
      have : i = p.size := ho
      omega
    | cons x r =>
      obtain ⟨_, o1, o2, o3, o4⟩ := ho
      have hx := h2 x o1 (by omega)
      rcases hc x (by omega) with ⟨_, c2⟩ | ⟨c1, _⟩
      · exact c2 r ⟨o3, o4⟩
      · have := hge (row[x]'(by omega)) x
        omega
  · rw [h2]
    have hc0 := hc off h
    rcases hc0 with ⟨c1, _⟩ | ⟨c1, c2, ⟨r, c3, c4⟩, c5⟩
    · exfalso
      rw [c1] at h3
      unfold adj at h3
      rw [if_neg (by simp)] at h3
      omega
    · have hge0 := hge (row[off]) off
      refine .inr ⟨by omega, ⟨off :: r, ⟨hi, h1, by omega, c2, c3⟩, ?_⟩, fun o ho => ?_⟩
      · have := hadj off (row[off]) r (by omega)
        omega
      · cases o with
        | nil =>
          have : i = p.size := ho
          omega
        | cons x r' =>
          obtain ⟨_, o1, o2, o3, o4⟩ := ho
          have hx := h4 x o1 (by omega)
          rcases hc x (by omega) with ⟨_, d2⟩ | ⟨d1, d2, _, d4⟩
          · exact absurd ⟨o3, o4⟩ (d2 r')
          · have e1 := d4 r' o4
            have e2 := hadj x (row[x]'(by omega)) r' (by omega)
            omega
theorem rowF_cells (p n : ByteArray) : ∀ j, j < p.size → ∀ off : Nat, (h : off < (rowF p n (j + 1)).length) → CellOk p n (p.size - (j + 1)) off ((rowF p n (j + 1))[off]) := by
  intro j
  induction j with
  | zero =>
    intro hj off h
    have := cell_of_opt p n (p.size - (0 + 1)) off 0 (by rw [show p.size - (0 + 1) + 1 = p.size by omega]; exact opt_end p n off)
    simpa [rowF] using this
  | succ j ih =>
    intro hj off h
    have hrow := ih (by omega)
    have hopt := opt_of_cells p n (p.size - (j + 1)) (by omega) (rowF p n (j + 1)) (rowF_length p n (j + 1) (by omega)) hrow (off : Int) (by omega)
    have := cell_of_opt p n (p.size - (j + 1 + 1)) off _ (by rw [show p.size - (j + 1 + 1) + 1 = p.size - (j + 1) by omega]; exact hopt)
    have e : (rowF p n (j + 1 + 1))[off] = (if foldB (bt p ((p.size - (j + 1 + 1) : Nat) : Int)) (bt n off) = true then (if (bestP (rowF p n (j + 1)) off).1 = -1 then -1 else ptP (bt p ((p.size - (j + 1 + 1) : Nat) : Int)) n off + (bestP (rowF p n (j + 1)) off).1) else -1) := by
      have h0 : ¬ (j + 1 = 0) := by omega
      rw [rowF_get p n (j + 1) off h]
      simp only [if_neg h0]
    rw [e]
    exact this
theorem row_opt (p n : ByteArray) (i : Nat) (hi : i < p.size) (prev : Int) (hp : -1 ≤ prev) : Opt p n i prev (bestP (rowF p n (p.size - i)) prev).1 := by
  obtain ⟨j, hj⟩ : ∃ j, p.size - i = j + 1 := ⟨p.size - i - 1, by omega⟩
  have hc := rowF_cells p n j (by omega)
  have e : p.size - (j + 1) = i := by omega
  rw [e] at hc
  rw [hj]
  exact opt_of_cells p n i hi _ (rowF_length p n (j + 1) (by omega)) hc prev hp
/-- What best picks, and what is left behind it. -/
theorem pick_opt (p n : ByteArray) (i : Nat) (hi : i < p.size) (prev : Int) (hp : -1 ≤ prev) : (bestP (rowF p n (p.size - i)) prev = (-1, -1) ∧ ∀ o, ¬ SA p n i prev o) ∨
    (∃ off : Nat, off < n.size ∧ prev < (off : Int) ∧ (bestP (rowF p n (p.size - i)) prev).2 = (off : Int) ∧ 0 ≤ (bestP (rowF p n (p.size - i)) prev).1 ∧ ∀ r, SA p n (i + 1) off r → (∀ r', SA p n (i + 1) off r' → sasc p n (i + 1) off r' ≤ sasc p n (i + 1) off r) → SA p n i prev (off :: r) ∧ sasc p n i prev (off :: r) = (bestP (rowF p n (p.size - i)) prev).1) ∧
    (∃ off : Nat, (bestP (rowF p n (p.size - i)) prev).2 = (off : Int) ∧ ∃ r, SA p n (i + 1) off r) := by
  obtain ⟨j, hj⟩ : ∃ j, p.size - i = j + 1 := ⟨p.size - i - 1, by omega⟩
  have hc := rowF_cells p n j (by omega)
  have e : p.size - (j + 1) = i := by omega
  rw [e] at hc
  have hl := rowF_length p n (j + 1) (by omega)
  have ho := row_opt p n i hi prev hp
  rw [hj] at ho ⊢
  rcases bestP_spec (rowF p n (j + 1)) prev hp with ⟨h1, h2⟩ | ⟨off, h, h1, h2, h3, h4⟩
  · refine .inl ⟨h1, ?_⟩
    rcases ho with ⟨_, ho⟩ | ⟨ho, _⟩
    · exact ho
    · rw [h1] at ho
      exact absurd ho (by decide)
  · rcases hc off h with ⟨c1, _⟩ | ⟨c1, c2, ⟨r0, c3, c4⟩, c5⟩
    · exfalso
      rw [c1] at h3
      unfold adj at h3
      rw [if_neg (by simp)] at h3
      omega
    · refine .inr ⟨⟨off, by omega, h1, by rw [h2], by rw [h2]; exact Int.le_of_lt_add_one (by omega), fun r hr hmax => ⟨⟨hi, h1, by omega, c2, hr⟩, ?_⟩⟩, ⟨off, by rw [h2], r0, c3⟩⟩
      have e1 := c5 r hr
      have e2 := hmax r0 c3
      rw [h2]
      simp only [sasc, adj]
      by_cases hb : 0 ≤ prev ∧ (off : Int) = prev + 1
      · rw [if_pos hb, if_pos ⟨by omega, hb⟩]
        omega
      · rw [if_neg hb, if_neg (fun hh => hb hh.2)]
        omega
/-! ### Score -/
theorem rows_at (p n : ByteArray) (i : Nat) (hi : i < p.size) : rd_L2 (runP p n (dn p.size p.size)) (i : Int) = rowF p n (p.size - i) := by
  unfold rd_L2
  rw [Int.toNat_natCast, run_rows p n p.size (Nat.le_refl _) i hi, if_pos (by omega)]
theorem rowF_range (p n : ByteArray) (hp : p.size ≤ 30) (i : Nat) (hi : i < p.size) : ∀ x ∈ rowF p n (p.size - i), -1 ≤ x ∧ x ≤ 1000 := by
  have hr := (run_bound p n (dn p.size p.size)).1.row i
  rw [run_rows p n p.size (Nat.le_refl _) i hi, if_pos (by omega)] at hr
  have hl : (dn p.size p.size).length = p.size := by
    have : ∀ k, (dn p.size k).length = k := by
      intro k
      induction k with
      | zero => rfl
      | succ k ih => simp [dn, ih]
    exact this _
  rw [hl] at hr
  intro x hx
  have := hr x hx
  omega
theorem best_same : ∀ k, (∀ a b c d e, fuzzy_best.l0 k a b c d e = PFuzzyScoreOptimal.fuzzy_best.l0 k a b c d e) ∧ (∀ a b c d e x y, fuzzy_best.j1 k a b c d e x y = PFuzzyScoreOptimal.fuzzy_best.j1 k a b c d e x y)
  | 0 => ⟨fun _ _ _ _ _ => rfl, fun _ _ _ _ _ _ _ => rfl⟩
  | k + 1 => by
    obtain ⟨i0, i1⟩ := best_same k
    constructor
    · intro a b c d e
      simp only [fuzzy_best.l0, PFuzzyScoreOptimal.fuzzy_best.l0, i0, i1]
    · intro a b c d e x y
      simp only [fuzzy_best.j1, PFuzzyScoreOptimal.fuzzy_best.j1, i0, i1]
theorem best_same' (k : Nat) (row : List Int) (prev : Int) : fuzzy_best.f k row prev = PFuzzyScoreOptimal.fuzzy_best.f k row prev := (best_same k).1 _ _ _ _ _
theorem score_loop (p n : ByteArray) (hp : p.size ≤ 30) (hn : n.size ≤ 30) : ∀ (j i : Nat) (prev : Int) (offs : List Int) (total : Int) (k : Nat), i + j = p.size → -1 ≤ prev → prev ≤ 30 → offs.length = i → 100 + j ≤ k →
    (i = 0 → (∀ o, ¬ SA p n 0 prev o) → 0 < p.size → fuzzy_Score.l0 k offs total prev (runP p n (dn p.size p.size)) ((runP p n (dn p.size p.size)).length : Int) (i : Int) = some (0, [], false)) ∧
    ((∃ o, SA p n i prev o) → ∃ o, SA p n i prev o ∧ (∀ o', SA p n i prev o' → sasc p n i prev o' ≤ sasc p n i prev o) ∧ fuzzy_Score.l0 k offs total prev (runP p n (dn p.size p.size)) ((runP p n (dn p.size p.size)).length : Int) (i : Int) = some (if i = 0 ∧ 0 < p.size then sasc p n i prev o else total, offs ++ o.map (fun x : Nat => (x : Int)), true)) := by
  intro j
  have hlen := (run_bound p n (dn p.size p.size)).2
  induction j with
  | zero =>
    intro i prev offs total k hij h1 h2 h3 hk
    obtain ⟨k, rfl⟩ : ∃ q, k = q + 1 := ⟨k - 1, by omega⟩
    refine ⟨fun hi _ hpos => by omega, fun _ => ⟨[], by simp only [SA]; omega, fun o' ho' => ?_, ?_⟩⟩
    · cases o' with
      | nil => exact Int.le_refl _
      | cons x r =>
        have := ho'.1
        omega
    · simp only [fuzzy_Score.l0]
      rw [hlen, if_neg (by omega), if_neg (by omega)]
      simp
  | succ j ih =>
    intro i prev offs total k hij h1 h2 h3 hk
    obtain ⟨k, rfl⟩ : ∃ q, k = q + 1 := ⟨k - 1, by omega⟩
    have hi : i < p.size := by omega
    have hrl : (rowF p n (p.size - i)).length = n.size := by
      obtain ⟨q, hq⟩ : ∃ q, p.size - i = q + 1 := ⟨p.size - i - 1, by omega⟩
      rw [hq]
      exact rowF_length p n (q + 1) (by omega)
    have hbest := best_eq (rowF p n (p.size - i)) prev h1 (by omega) (by omega) (fun x hx => ⟨(rowF_range p n hp i hi x hx).1, by have := (rowF_range p n hp i hi x hx).2; omega⟩) k (by omega)
    rw [← best_same'] at hbest
    have hstep : fuzzy_Score.l0 (k + 1) offs total prev (runP p n (dn p.size p.size)) ((runP p n (dn p.size p.size)).length : Int) (i : Int) = (if (bestP (rowF p n (p.size - i)) prev).1 = (-1) then (some (0, ([] : List Int), false)) else (if (i : Int) = 0 then (if offs.length < 17592186044416 then (fuzzy_Score.l0 k (offs ++ [(bestP (rowF p n (p.size - i)) prev).2]) (bestP (rowF p n (p.size - i)) prev).1 (bestP (rowF p n (p.size - i)) prev).2 (runP p n (dn p.size p.size)) ((runP p n (dn p.size p.size)).length : Int) (wrap64 ((i : Int) + 1))) else (none)) else (if offs.length < 17592186044416 then (fuzzy_Score.l0 k (offs ++ [(bestP (rowF p n (p.size - i)) prev).2]) total (bestP (rowF p n (p.size - i)) prev).2 (runP p n (dn p.size p.size)) ((runP p n (dn p.size p.size)).length : Int) (wrap64 ((i : Int) + 1))) else (none)))) := by
      simp only [fuzzy_Score.l0]
      rw [hlen, if_pos (by omega), if_pos (by omega), if_pos (by omega), rows_at p n i hi, hbest]
      rfl
    rw [hstep, w64' (x := (i : Int) + 1) (by omega) (by omega)]
    rcases pick_opt p n i hi prev h1 with ⟨hb, hno⟩ | ⟨⟨off, o1, o2, o3, o4, o5⟩, ⟨off', p1, r0, p2⟩⟩
    · rw [hb]
      refine ⟨fun _ _ _ => by simp, fun ⟨o, ho⟩ => absurd ho (hno o)⟩
    · have hoff : off' = off := by omega
      subst hoff
      rw [if_neg (by omega), if_pos (show offs.length < 17592186044416 by omega), if_pos (show offs.length < 17592186044416 by omega), o3]
      have hnext := ih (i + 1) (off' : Int) (offs ++ [(off' : Int)])
      refine ⟨fun hi0 hno hpos => ?_, fun _ => ?_⟩
      · exfalso
        subst hi0
        obtain ⟨r, hr1, hr2, _⟩ := (hnext total k (by omega) (by omega) (by omega) (by simp [h3]) (by omega)).2 ⟨r0, p2⟩
        exact hno _ (o5 r hr1 hr2).1
      · by_cases hi0 : i = 0
        · rw [if_pos (show (i : Int) = 0 by omega)]
          obtain ⟨r, hr1, hr2, hr3⟩ := (hnext (bestP (rowF p n (p.size - i)) prev).1 k (by omega) (by omega) (by omega) (by simp [h3]) (by omega)).2 ⟨r0, p2⟩
          have hs := o5 r hr1 hr2
          refine ⟨off' :: r, hs.1, fun o' ho' => ?_, ?_⟩
          · rw [hs.2]
            rcases row_opt p n i hi prev h1 with ⟨_, hx⟩ | ⟨_, _, hx⟩
            · exact absurd ho' (hx o')
            · exact hx o' ho'
          · rw [show ((i : Int) + 1) = ((i + 1 : Nat) : Int) by omega, hr3, if_neg (by omega), if_pos ⟨hi0, by omega⟩, hs.2]
            simp
        · rw [if_neg (show ¬ (i : Int) = 0 by omega)]
          obtain ⟨r, hr1, hr2, hr3⟩ := (hnext total k (by omega) (by omega) (by omega) (by simp [h3]) (by omega)).2 ⟨r0, p2⟩
          have hs := o5 r hr1 hr2
          refine ⟨off' :: r, hs.1, fun o' ho' => ?_, ?_⟩
          · rw [hs.2]
            rcases row_opt p n i hi prev h1 with ⟨_, hx⟩ | ⟨_, _, hx⟩
            · exact absurd ho' (hx o')
            · exact hx o' ho'
          · rw [show ((i : Int) + 1) = ((i + 1 : Nat) : Int) by omega, hr3, if_neg (by omega), if_neg (by omega)]
            simp
/-- What Score answers. -/
def Said (p n : ByteArray) (s : Int) (offs : List Int) (ok : Bool) : Prop :=
  (ok = false ∧ s = 0 ∧ offs = [] ∧ (p.size ≤ 30 → n.size ≤ 30 → ∀ o, ¬ SA p n 0 (-1) o)) ∨
  (ok = true ∧ p.size ≤ 30 ∧ n.size ≤ 30 ∧ ∃ o, offs = o.map (fun x : Nat => (x : Int)) ∧ SA p n 0 (-1) o ∧ s = sasc p n 0 (-1) o ∧ ∀ o', SA p n 0 (-1) o' → sasc p n 0 (-1) o' ≤ s)
theorem score_said (p n : ByteArray) (k : Nat) (hk : 200 ≤ k) : ∃ s offs ok, fuzzy_Score.f k p n = some (s, offs, ok) ∧ Said p n s offs ok := by
  obtain ⟨k, rfl⟩ : ∃ q, k = q + 1 := ⟨k - 1, by omega⟩
  by_cases hp : p.size ≤ 30
  · by_cases hn : n.size ≤ 30
    · have hf : fuzzy_Score.f (k + 1) p n = fuzzy_Score.l0 k [] 0 (-1) (runP p n (dn p.size p.size)) ((runP p n (dn p.size p.size)).length : Int) 0 := by
        unfold fuzzy_Score.f
        rw [if_neg (by omega)]
        simp only [fuzzy_Score.j0]
        rw [if_neg (by simp; omega)]
        unfold fuzzy_suffixScores.f
        rw [if_pos ⟨hp, hn⟩]
        rfl
      have hl := score_loop p n hp hn p.size 0 (-1) [] 0 k (by omega) (Int.le_refl _) (by omega) rfl (by omega)
      rw [hf]
      by_cases hex : ∃ o, SA p n 0 (-1) o
      · obtain ⟨o, h1, h2, h3⟩ := hl.2 hex
        refine ⟨_, _, _, h3, .inr ⟨rfl, hp, hn, o, by simp, h1, ?_, ?_⟩⟩
        · by_cases h0 : 0 < p.size
          · rw [if_pos ⟨rfl, h0⟩]
          · rw [if_neg (by omega)]
            cases o with
            | nil => rfl
            | cons x r =>
              have := h1.1
              omega
        · by_cases h0 : 0 < p.size
          · rw [if_pos ⟨rfl, h0⟩]
            exact h2
          · rw [if_neg (by omega)]
            intro o' ho'
            cases o' with
            | nil => exact Int.le_refl _
            | cons x r =>
              have := ho'.1
              omega
      · have hno : ∀ o, ¬ SA p n 0 (-1) o := fun o ho => hex ⟨o, ho⟩
        have hpos : 0 < p.size := by
          rcases Nat.eq_zero_or_pos p.size with h0 | h0
          · exact absurd (show SA p n 0 (-1) [] by simp only [SA]; omega) (hno [])
          · exact h0
        exact ⟨_, _, _, hl.1 rfl hno hpos, .inl ⟨rfl, rfl, rfl, fun _ _ => hno⟩⟩
    · refine ⟨0, [], false, ?_, .inl ⟨rfl, rfl, rfl, fun _ h => absurd h hn⟩⟩
      unfold fuzzy_Score.f
      rw [if_neg (by omega)]
      simp only [fuzzy_Score.j0]
      rw [if_pos (by simp; omega)]
  · refine ⟨0, [], false, ?_, .inl ⟨rfl, rfl, rfl, fun h => absurd h hp⟩⟩
    unfold fuzzy_Score.f
    rw [if_pos (by omega)]
    simp only [fuzzy_Score.j0]
    rfl
end Go.Proofs.Ytldhhomeifjbeaa.PA
namespace Go.Proofs.Ytldhhomeifjbeaa.PA
open Go.RowKit Go.Proofs.YtldhhomeifjbeaaW.PrintWords Go.Proofs.YtldhhomeifjbeaaW.PrintLast
set_option linter.unusedVariables false
set_option maxRecDepth 100000 in
theorem examples_at : glossatorkeep4_fuzzyExamples.f 300 = some true := by decide +kernel
theorem examples_true : ∀ k, 300 ≤ k → glossatorkeep4_fuzzyExamples.f k = some true := by
  intro k hk
  obtain ⟨j, rfl⟩ : ∃ j, k = 300 + j := ⟨k - 300, by omega⟩
  clear hk
  induction j with
  | zero => exact examples_at
  | succ j ih => exact glossatorkeep4_fuzzyExamples.mono _ _ ih
end Go.Proofs.Ytldhhomeifjbeaa.PA
