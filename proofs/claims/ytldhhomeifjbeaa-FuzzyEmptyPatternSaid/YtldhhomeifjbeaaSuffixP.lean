/- The table of fuzzy.suffixScores: what it is, and how it lies in memory. No walk. · What fuzzy.suffixScores computes: plain functions, and that the printed ones answer them. No walk. -/
import Derived.Test.YtldhhomeifjbeaaRepeat
import Derived.Test.YtldhhomeifjbeaaPAx0
import Derived.RangeFuncFrom
import Derived.Test.YtldhhomeifjbeaaPFuzzyScoreOptimalx1
namespace Go.Proofs.Ytldhhomeifjbeaa.PA
open Go.RowKit Go.Proofs.YtldhhomeifjbeaaW.PrintWords Go.Proofs.YtldhhomeifjbeaaW.PrintLast
set_option linter.unusedVariables false
set_option linter.unusedSimpArgs false

theorem hp_lt {W : World} {b : Nat} {o : Obj} (h : W.heap[b]? = some o) : b < W.heap.size := (Array.getElem?_eq_some_iff.1 h).1
def intV (l : List Int) : Array Value := (l.map (Value.int .i64)).toArray
/-- T lies in block bT; each of its rows is nil and empty, or a whole block of n ints; f tells a block's row. -/
structure TS (base bT n : Nat) (T : List (List Int)) (f : Nat → Nat) (cs : List Value) (W : World) : Prop where
  ge : base ≤ bT
  tab : W.heap[bT]? = some (.cells cs.toArray 22 (0, 0))
  len : cs.length = T.length
  row : ∀ j, j < T.length → (cs[j]? = some (.slice none 0 0) ∧ T.getD j [] = []) ∨ ∃ b, cs[j]? = some (.slice (some ⟨b, 0, none⟩) n n) ∧ base ≤ b ∧ f b = j ∧ (T.getD j []).length = n ∧ W.heap[b]? = some (.cells (intV (T.getD j [])) 3 (0, 0))
theorem TS.move {base bT n : Nat} {T : List (List Int)} {f : Nat → Nat} {cs : List Value} {W W' : World} (h : TS base bT n T f cs W) (hk : ∀ (b : Nat) (c : Array Value) (t : TypeId), W.heap[b]? = some (.cells c t (0, 0)) → W'.heap[b]? = some (.cells c t (0, 0))) : TS base bT n T f cs W' := by
  refine ⟨h.ge, hk _ _ _ h.tab, h.len, fun j hj => ?_⟩
  rcases h.row j hj with h1 | ⟨b, h1, h2, h3, h4, h5⟩
  · exact .inl h1
  · exact .inr ⟨b, h1, h2, h3, h4, hk _ _ _ h5⟩
theorem TS.below {base bT n : Nat} {T : List (List Int)} {f : Nat → Nat} {cs : List Value} {W W' : World} (h : TS base bT n T f cs W) (hb : Below W.heap.size W W') : TS base bT n T f cs W' := h.move (fun b c t hc => (hb.block b (hp_lt hc)).trans hc)
/-- The empty table. -/
theorem TS.new {base bT n len : Nat} {W : World} (hge : base ≤ bT) (h : W.heap[bT]? = some (.cells (Array.replicate len (.slice none 0 0)) 22 (0, 0))) : TS base bT n (List.replicate len []) (fun _ => 0) (List.replicate len (.slice none 0 0)) W := by
  refine ⟨hge, by rw [h, List.toArray_replicate], by simp, fun j hj => .inl ?_⟩
  rw [List.length_replicate] at hj
  constructor
  · rw [List.getElem?_replicate, if_pos hj]
  · rw [List.getD_eq_getElem?_getD, List.getElem?_replicate, if_pos hj]
    rfl
/-- Every header is there. -/
theorem TS.cell {base bT n : Nat} {T : List (List Int)} {f : Nat → Nat} {cs : List Value} {W : World} (h : TS base bT n T f cs W) (j : Nat) (hj : j < T.length) : W.cell? ⟨bT, j, none⟩ = cs[j]? := by
  simp [World.cell?, h.tab]
/-- A new row put at i. -/
theorem TS.put {base bT n : Nat} {T : List (List Int)} {f : Nat → Nat} {cs : List Value} {W : World} (h : TS base bT n T f cs W) (i g : Nat) (hi : i < T.length) (R : List Int) (hR : R.length = n) (hg : base ≤ g) (hgc : W.heap[g]? = some (.cells (intV R) 3 (0, 0))) (hne : ∀ j, j < T.length → ∀ b, cs[j]? = some (.slice (some ⟨b, 0, none⟩) n n) → b ≠ g) :
    TS base bT n (T.set i R) (fun b => if b = g then i else f b) (cs.set i (.slice (some ⟨g, 0, none⟩) n n)) (W.setCell ⟨bT, i, none⟩ (.slice (some ⟨g, 0, none⟩) n n)) := by
  have hgT : g ≠ bT := by
    rintro rfl
    rw [h.tab] at hgc
    injection hgc with hgc
    injection hgc with _ ht _
    exact absurd ht (by decide)
  have hoth : ∀ b, b ≠ bT → (W.setCell ⟨bT, i, none⟩ (.slice (some ⟨g, 0, none⟩) n n)).heap[b]? = W.heap[b]? := fun b hb => Below.heap_setCell W ⟨bT, i, none⟩ _ b hb
  refine ⟨h.ge, ?_, by rw [List.length_set, List.length_set]; exact h.len, fun j hj => ?_⟩
  · have := h.tab
    simp [World.setCell, Array.getElem?_modify, this]
  · rw [List.length_set] at hj
    by_cases hij : i = j
    · subst hij
      have e1 : (T.set i R).getD i [] = R := by rw [List.getD_eq_getElem?_getD, List.getElem?_set_self hi]; rfl
      refine .inr ⟨g, ?_, hg, by simp, by rw [e1]; exact hR, by rw [e1, hoth g hgT]; exact hgc⟩
      rw [List.getElem?_set_self (by rw [h.len]; exact hi)]
    · have e1 : (T.set i R).getD j [] = T.getD j [] := by rw [List.getD_eq_getElem?_getD, List.getElem?_set_ne hij, List.getD_eq_getElem?_getD]
      rw [e1, List.getElem?_set_ne hij]
      rcases h.row j hj with h1 | ⟨b, h1, h2, h3, h4, h5⟩
      · exact .inl h1
      · have hbT : b ≠ bT := by
          rintro rfl
          rw [h.tab] at h5
          injection h5 with h5
          injection h5 with _ ht _
          exact absurd ht (by decide)
        refine .inr ⟨b, h1, h2, ?_, h4, by rw [hoth b hbT]; exact h5⟩
        rw [if_neg (hne j hj b h1)]
        exact h3
/-- One cell of row i written. -/
theorem TS.write {base bT n : Nat} {T : List (List Int)} {f : Nat → Nat} {cs : List Value} {W : World} (h : TS base bT n T f cs W) (i g q : Nat) (hi : i < T.length) (hc : cs[i]? = some (.slice (some ⟨g, 0, none⟩) n n)) (x : Int) (hq : q < n) :
    W.frozen? ⟨g, q, none⟩ = false ∧ (∃ v, W.cell? ⟨g, q, none⟩ = some v) ∧ base ≤ g ∧ TS base bT n (T.set i ((T.getD i []).set q x)) f cs (W.setCell ⟨g, q, none⟩ (.int .i64 x)) := by
  rcases h.row i hi with ⟨h1, _⟩ | ⟨b, h1, h2, h3, h4, h5⟩
  · rw [hc] at h1; cases h1
  · rw [hc] at h1
    simp only [Option.some.injEq, Value.slice.injEq, Addr.mk.injEq, and_true] at h1
    subst h1
    have hgT : g ≠ bT := by
      rintro rfl
      rw [h.tab] at h5
      injection h5 with h5
      injection h5 with _ ht _
      exact absurd ht (by decide)
    refine ⟨blk_frozen h5 q, ⟨.int .i64 ((T.getD i [])[q]'(by omega)), ?_⟩, h2, h.ge, ?_, by rw [List.length_set]; exact h.len, fun j hj => ?_⟩
    · refine (blk_cell h5 q).trans ?_
      unfold intV
      simp [h4, hq]
    · exact (Below.heap_setCell W ⟨g, q, none⟩ _ bT (Ne.symm hgT)).trans h.tab
    · rw [List.length_set] at hj
      by_cases hij : i = j
      · subst hij
        have e1 : (T.set i ((T.getD i []).set q x)).getD i [] = (T.getD i []).set q x := by rw [List.getD_eq_getElem?_getD, List.getElem?_set_self hi]; rfl
        rw [e1]
        refine .inr ⟨g, hc, h2, h3, by rw [List.length_set]; exact h4, ?_⟩
        have : (W.setCell ⟨g, q, none⟩ (.int .i64 x)).heap[g]? = some (.cells ((intV (T.getD i [])).setIfInBounds q (.int .i64 x)) 3 (0, 0)) := by simp [World.setCell, Array.getElem?_modify, h5]
        rw [this]
        unfold intV
        simp
      · have e1 : (T.set i ((T.getD i []).set q x)).getD j [] = T.getD j [] := by rw [List.getD_eq_getElem?_getD, List.getElem?_set_ne hij, List.getD_eq_getElem?_getD]
        rw [e1]
        rcases h.row j hj with k1 | ⟨b, k1, k2, k3, k4, k5⟩
        · exact .inl k1
        · refine .inr ⟨b, k1, k2, k3, k4, ?_⟩
          have hbg : b ≠ g := by rintro rfl; omega
          exact (Below.heap_setCell W ⟨g, q, none⟩ _ b hbg).trans k5
/-- A row, as it is read. -/
theorem TS.reads {base bT n : Nat} {T : List (List Int)} {f : Nat → Nat} {cs : List Value} {W : World} (h : TS base bT n T f cs W) (hT : ∀ j, (T.getD j []).length ≤ 1000) (j : Nat) (hj : j < T.length) :
    ∃ A, cs[j]? = some (.slice A (T.getD j []).length (T.getD j []).length) ∧ Kd.C (Kd.int .i64) W A (T.getD j []).length (T.getD j []) := by
  rcases h.row j hj with ⟨h1, h2⟩ | ⟨b, h1, h2, h3, h4, h5⟩
  · refine ⟨none, by rw [h2]; exact h1, ?_⟩
    rw [h2]
    exact ⟨rfl, by simp, fun h0 => absurd h0 (by simp)⟩
  · refine ⟨some ⟨b, 0, none⟩, by rw [h4]; exact h1, rfl, by have := hT j; omega, fun h0 => ⟨_, rfl, fun k x hk => ⟨[.int .i64 x], rfl, rfl, fun i u hu => ?_⟩⟩⟩
    have hi : i = 0 := by
      rcases i with _ | i
      · rfl
      · simp at hu
    subst hi
    simp only [List.getElem?_cons_zero, Option.some.injEq] at hu
    subst hu
    have ha : (Addr.add ⟨b, 0, none⟩ (k * (Kd.int .i64).sz + 0)) = ⟨b, k, none⟩ := by
      show Addr.add ⟨b, 0, none⟩ (k * 1 + 0) = _
      simp only [Addr.add, Nat.mul_one, Nat.add_zero, Nat.zero_add]
      by_cases hk0 : k = 0
      · rw [if_pos hk0, hk0]
      · rw [if_neg hk0]
    rw [ha]
    refine (blk_cell h5 k).trans ?_
    unfold intV
    rw [List.getD_eq_getElem?_getD] at hk
    simp [hk]
theorem TS.lens {base bT n : Nat} {T : List (List Int)} {f : Nat → Nat} {cs : List Value} {W : World} (h : TS base bT n T f cs W) (hn : n ≤ 1000) (j : Nat) : (T.getD j []).length ≤ 1000 := by
  by_cases hj : j < T.length
  · rcases h.row j hj with ⟨_, h2⟩ | ⟨b, h1, h2, h3, h4, h5⟩
    · rw [h2]
      simp
    · omega
  · rw [List.getD_eq_getElem?_getD, List.getElem?_eq_none (by omega)]
    simp
theorem keeps_below {W W' : World} (h : Below W.heap.size W W') : KeepsOthers W W' := ⟨h.size, fun k o hk _ => (h.block k (hp_lt hk)).trans hk⟩
end Go.Proofs.Ytldhhomeifjbeaa.PA
namespace Go.Proofs.Ytldhhomeifjbeaa.PA
open Go.RowKit Go.Proofs.YtldhhomeifjbeaaW.PrintWords Go.Proofs.YtldhhomeifjbeaaW.PrintLast
set_option linter.unusedVariables false
set_option linter.unusedSimpArgs false

def upB (a : Int) : Bool := decide (65 ≤ a) && decide (a ≤ 90)
def lowB (a : Int) : Int := if upB a = true then (((a + 97) % 256) - 65) % 256 else a
def foldB (a b : Int) : Bool := lowB a == lowB b
theorem up_eq (a : Int) : PFuzzyScoreOptimal.fuzzy_isUpper.f a = some (upB a) := by
  unfold PFuzzyScoreOptimal.fuzzy_isUpper.f upB
  by_cases h : a ≥ 65
  · rw [if_pos h]; simp [show 65 ≤ a from h]
  · rw [if_neg h]; simp [show ¬ 65 ≤ a from h]
theorem low_eq (a : Int) : PFuzzyScoreOptimal.fuzzy_lower.f a = some (lowB a) := by
  unfold PFuzzyScoreOptimal.fuzzy_lower.f lowB
  rw [up_eq]
  simp only [Option.bind_some]
  split <;> rfl
theorem fold_eq (a b : Int) : PFuzzyScoreOptimal.fuzzy_EqualFold.f a b = some (foldB a b) := by
  unfold PFuzzyScoreOptimal.fuzzy_EqualFold.f foldB
  rw [low_eq, low_eq]
  rfl
def startB (s : ByteArray) (o : Int) : Bool := decide (o = 0) || decide (bt s (o - 1) = 95) || (upB (bt s o) && !upB (bt s (o - 1)))
def ptP (b : Int) (s : ByteArray) (o : Int) : Int := 1 + (if b = bt s o then 1 else 0) + (if startB s o = true then 4 else 0)
theorem w64' {x : Int} (h0 : -9223372036854775808 ≤ x) (h1 : x ≤ 9223372036854775807) : wrap64 x = x := by unfold wrap64; omega
theorem start_eq (s : ByteArray) (o : Int) (h0 : 0 ≤ o) (h1 : o < (s.size : Int)) (h2 : o ≤ 1000000) : PFuzzyScoreOptimal.fuzzy_startsWord.f s o = some (startB s o) := by
  unfold PFuzzyScoreOptimal.fuzzy_startsWord.f startB
  by_cases hz : o = 0
  · rw [if_pos hz]; simp [hz]
  · rw [if_neg hz, w64' (by omega) (by omega), if_pos (by omega), if_pos (by omega)]
    by_cases h95 : bt s (o - 1) = 95
    · rw [if_pos h95]; simp [h95]
    · rw [if_neg h95, if_pos h0, if_pos h1, up_eq, up_eq]
      simp only [Option.bind_some]
      cases upB (bt s o) <;> simp [hz, h95]
theorem pt_eq (b : Int) (s : ByteArray) (o : Int) (h0 : 0 ≤ o) (h1 : o < (s.size : Int)) (h2 : o ≤ 1000000) : PFuzzyScoreOptimal.fuzzy_points.f b s o = some (ptP b s o) := by
  unfold PFuzzyScoreOptimal.fuzzy_points.f ptP
  rw [if_pos h0, if_pos h1, start_eq s o h0 h1 h2]
  simp only [Option.bind_some]
  by_cases hb : b = bt s o
  · rw [if_pos hb, if_pos hb]
    cases startB s o <;> rfl
  · rw [if_neg hb, if_neg hb]
    cases startB s o <;> rfl
theorem pt_range (b : Int) (s : ByteArray) (o : Int) : 1 ≤ ptP b s o ∧ ptP b s o ≤ 6 := by
  unfold ptP
  split <;> split <;> omega
/-- best: what is left of the row, from index i on -/
def bestL (prev : Int) : List Int → Int → Int → Int → Int × Int
  | [], _, s, o => (s, o)
  | x :: r, i, s, o => if (if x ≠ -1 ∧ 0 ≤ prev ∧ i = prev + 1 then x + 3 else x) > s then bestL prev r (i + 1) (if x ≠ -1 ∧ 0 ≤ prev ∧ i = prev + 1 then x + 3 else x) i else bestL prev r (i + 1) s o
def bestP (row : List Int) (prev : Int) : Int × Int := bestL prev (row.drop (prev + 1).toNat) (prev + 1) (-1) (-1)
def cellP (p n : ByteArray) (T : List (List Int)) (i off : Nat) : Int :=
  if foldB (bt p i) (bt n off) = true then (if (if i + 1 < p.size then (bestP (T.getD (i + 1) []) off).1 else 0) = -1 then -1 else ptP (bt p i) n off + (if i + 1 < p.size then (bestP (T.getD (i + 1) []) off).1 else 0)) else -1
def rowP (p n : ByteArray) (T : List (List Int)) (i : Nat) : List Int := (List.range n.size).map (cellP p n T i)
def runP (p n : ByteArray) (is : List Nat) : List (List Int) := is.foldl (fun T i => T.set i (rowP p n T i)) (List.replicate p.size [])

theorem rd_at (pre suf : List Int) (x : Int) : rd (pre ++ x :: suf) (pre.length : Int) = x := by
  unfold rd
  rw [Int.toNat_natCast, List.getD_eq_getElem?_getD, List.getElem?_append_right (Nat.le_refl _)]
  simp
theorem best_loop (prev : Int) (hp : -1 ≤ prev) (hp2 : prev ≤ 1000000) : ∀ (suf pre : List Int) (s o : Int), (pre ++ suf).length ≤ 1000000 → (∀ x ∈ suf, -1 ≤ x ∧ x ≤ 1000000) → ∀ k, 2 * suf.length + 1 ≤ k →
    PFuzzyScoreOptimal.fuzzy_best.l0 k (pre ++ suf) prev s o (pre.length : Int) = some (bestL prev suf (pre.length : Int) s o)
  | [], pre, s, o, hl, hx, k, hk => by
    obtain ⟨k, rfl⟩ : ∃ m, k = m + 1 := ⟨k - 1, by simp only [List.length_nil] at hk; omega⟩
    simp only [PFuzzyScoreOptimal.fuzzy_best.l0, List.append_nil, bestL]
    rw [if_neg (by omega)]
  | x :: suf, pre, s, o, hl, hx, k, hk => by
    obtain ⟨k, rfl⟩ : ∃ m, k = m + 1 + 1 := ⟨k - 2, by simp only [List.length_cons] at hk; omega⟩
    simp only [List.length_cons] at hk
    have hl' := hl
    rw [List.length_append, List.length_cons] at hl'
    have hx0 := hx x (by simp)
    have ih := fun s o => best_loop prev hp hp2 suf (pre ++ [x]) s o (by rw [List.append_assoc]; exact hl) (fun y hy => hx y (by simp [hy])) k (by omega)
    have he : (pre ++ [x]) ++ suf = pre ++ x :: suf := by simp
    have hn : ((pre ++ [x]).length : Int) = (pre.length : Int) + 1 := by rw [List.length_append]; simp
    rw [he, hn] at ih
    have hlen : (pre.length : Int) < ((pre ++ x :: suf).length : Int) := by rw [List.length_append, List.length_cons]; omega
    simp only [PFuzzyScoreOptimal.fuzzy_best.l0, bestL]
    rw [if_pos hlen, if_pos (by omega), rd_at]
    have hw : wrap64 ((pre.length : Int) + 1) = (pre.length : Int) + 1 := w64' (by omega) (by omega)
    have step : ∀ c : Bool, PFuzzyScoreOptimal.fuzzy_best.j1 (k + 1) (pre ++ x :: suf) prev s o (pre.length : Int) x c = (if (if c = true then x + 3 else x) > s then some (bestL prev suf ((pre.length : Int) + 1) (if c = true then x + 3 else x) (pre.length : Int)) else some (bestL prev suf ((pre.length : Int) + 1) s o)) := by
      intro c
      simp only [PFuzzyScoreOptimal.fuzzy_best.j1]
      rw [hw, w64' (x := x + 3) (by omega) (by omega)]
      cases c <;> simp only [if_true, if_false, Bool.false_eq_true, ih]
    have fin : ∀ c : Bool, (c = true ↔ (x ≠ -1 ∧ 0 ≤ prev ∧ (pre.length : Int) = prev + 1)) → PFuzzyScoreOptimal.fuzzy_best.j1 (k + 1) (pre ++ x :: suf) prev s o (pre.length : Int) x c = some (if (if x ≠ -1 ∧ 0 ≤ prev ∧ (pre.length : Int) = prev + 1 then x + 3 else x) > s then bestL prev suf ((pre.length : Int) + 1) (if x ≠ -1 ∧ 0 ≤ prev ∧ (pre.length : Int) = prev + 1 then x + 3 else x) (pre.length : Int) else bestL prev suf ((pre.length : Int) + 1) s o) := by
      intro c hc
      rw [step c]
      by_cases h : x ≠ -1 ∧ 0 ≤ prev ∧ (pre.length : Int) = prev + 1
      · rw [if_pos (hc.2 h)]
        simp only [if_pos h]
        split <;> rfl
      · rw [if_neg (fun hh => h (hc.1 hh))]
        simp only [if_neg h]
        split <;> rfl
    by_cases h1 : x = -1
    · rw [if_pos h1]
      exact fin false (by simp [h1])
    · rw [if_neg h1]
      by_cases h2 : prev ≥ 0
      · rw [if_pos h2, w64' (x := prev + 1) (by omega) (by omega)]
        refine fin _ ?_
        rw [beq_iff_eq]
        exact ⟨fun h => ⟨h1, h2, h⟩, fun h => h.2.2⟩
      · rw [if_neg h2]
        refine fin false ?_
        simp
        omega
theorem best_eq (row : List Int) (prev : Int) (hp : -1 ≤ prev) (hp2 : prev ≤ 1000000) (hl : row.length ≤ 1000000) (hx : ∀ x ∈ row, -1 ≤ x ∧ x ≤ 1000000) (k : Nat) (hk : 2 * row.length + 1 ≤ k) : PFuzzyScoreOptimal.fuzzy_best.f k row prev = some (bestP row prev) := by
  unfold PFuzzyScoreOptimal.fuzzy_best.f bestP
  rw [w64' (x := prev + 1) (by omega) (by omega)]
  by_cases h : (prev + 1).toNat ≤ row.length
  · have := best_loop prev hp hp2 (row.drop (prev + 1).toNat) (row.take (prev + 1).toNat) (-1) (-1) (by rw [List.take_append_drop]; exact hl) (fun x hx' => hx x (List.mem_of_mem_drop hx')) k (by rw [List.length_drop]; omega)
    rw [List.take_append_drop, List.length_take, Nat.min_eq_left h, show ((prev + 1).toNat : Int) = prev + 1 by omega] at this
    exact this
  · obtain ⟨k, rfl⟩ : ∃ m, k = m + 1 := ⟨k - 1, by omega⟩
    rw [List.drop_of_length_le (by omega)]
    simp only [PFuzzyScoreOptimal.fuzzy_best.l0, bestL]
    rw [if_neg (by omega)]

theorem bestL_range (prev B : Int) (hB : -1 ≤ B) : ∀ (l : List Int) (i s o : Int), (∀ x ∈ l, -1 ≤ x ∧ x ≤ B) → -1 ≤ s → s ≤ B + 3 → -1 ≤ (bestL prev l i s o).1 ∧ (bestL prev l i s o).1 ≤ B + 3
  | [], i, s, o, hx, h0, h1 => ⟨h0, h1⟩
  | x :: r, i, s, o, hx, h0, h1 => by
    have hx0 := hx x (by simp)
    have hr : ∀ y ∈ r, -1 ≤ y ∧ y ≤ B := fun y hy => hx y (by simp [hy])
    simp only [bestL]
    obtain ⟨y, hy⟩ : ∃ y, y = (if x ≠ -1 ∧ 0 ≤ prev ∧ i = prev + 1 then x + 3 else x) := ⟨_, rfl⟩
    have hyr : -1 ≤ y ∧ y ≤ B + 3 := by
      rw [hy]
      split <;> omega
    rw [← hy]
    by_cases hc : y > s
    · rw [if_pos hc]
      exact bestL_range prev B hB r _ _ _ hr hyr.1 hyr.2
    · rw [if_neg hc]
      exact bestL_range prev B hB r _ _ _ hr h0 h1
def TB (B : Int) (T : List (List Int)) : Prop := ∀ row ∈ T, ∀ x ∈ row, -1 ≤ x ∧ x ≤ B
theorem TB.row {B : Int} {T : List (List Int)} (h : TB B T) (j : Nat) : ∀ x ∈ T.getD j [], -1 ≤ x ∧ x ≤ B := by
  intro x hx
  by_cases hj : j < T.length
  · rw [List.getD_eq_getElem?_getD, List.getElem?_eq_getElem hj] at hx
    exact h _ (List.getElem_mem hj) x hx
  · rw [List.getD_eq_getElem?_getD, List.getElem?_eq_none (by omega)] at hx
    cases hx
theorem bestP_range {B : Int} (hB : -1 ≤ B) {row : List Int} (h : ∀ x ∈ row, -1 ≤ x ∧ x ≤ B) (prev : Int) : -1 ≤ (bestP row prev).1 ∧ (bestP row prev).1 ≤ B + 3 :=
  bestL_range prev B hB _ _ _ _ (fun x hx => h x (List.mem_of_mem_drop hx)) (by omega) (by omega)
theorem cell_range {p n : ByteArray} {T : List (List Int)} {B : Int} (hB : 0 ≤ B) (h : TB B T) (i off : Nat) : -1 ≤ cellP p n T i off ∧ cellP p n T i off ≤ B + 9 := by
  have hp := pt_range (bt p i) n off
  have hb := bestP_range (B := B) (by omega) (h.row (i + 1)) off
  unfold cellP
  split
  · split
    · omega
    · split <;> omega
  · omega
theorem TB.set {p n : ByteArray} {T : List (List Int)} {B : Int} (hB : 0 ≤ B) (h : TB B T) (i : Nat) : TB (B + 9) (T.set i (rowP p n T i)) := by
  intro row hr x hx
  rcases List.mem_or_eq_of_mem_set hr with hr | rfl
  · have := h row hr x hx
    omega
  · unfold rowP at hx
    obtain ⟨off, _, rfl⟩ := List.mem_map.1 hx
    exact cell_range hB h i off
theorem run_bound (p n : ByteArray) : ∀ (is : List Nat), TB (9 * (is.length : Int)) (runP p n is) ∧ (runP p n is).length = p.size := by
  intro is
  unfold runP
  rw [← List.reverse_reverse is]
  generalize is.reverse = js
  induction js with
  | nil =>
    simp only [List.reverse_nil, List.foldl_nil, List.length_nil, List.length_replicate, and_true]
    intro row hr x hx
    rw [(List.mem_replicate.1 hr).2] at hx
    cases hx
  | cons j js ih =>
    simp only [List.reverse_cons, List.foldl_append, List.foldl_cons, List.foldl_nil, List.length_append, List.length_cons, List.length_nil, List.length_set]
    have := ih.1.set (p := p) (n := n) (by omega) j
    rw [show 9 * ((js.reverse.length + (0 + 1) : Nat) : Int) = 9 * (js.reverse.length : Int) + 9 by omega]
    exact ⟨this, ih.2⟩
theorem run_snoc (p n : ByteArray) (is : List Nat) (i : Nat) : runP p n (is ++ [i]) = (runP p n is).set i (rowP p n (runP p n is) i) := by
  unfold runP
  rw [List.foldl_append]
  rfl
theorem row_length (p n : ByteArray) (T : List (List Int)) (i : Nat) : (rowP p n T i).length = n.size := by unfold rowP; simp
/-- A row, as far as it has come. -/
def rowK (p n : ByteArray) (T : List (List Int)) (i k : Nat) : List Int := (List.range n.size).map (fun off => if off < k then cellP p n T i off else -1)
theorem rowK_zero (p n : ByteArray) (T : List (List Int)) (i : Nat) : rowK p n T i 0 = List.replicate n.size (-1) := by
  unfold rowK
  simp only [Nat.not_lt_zero, if_false]
  apply List.ext_getElem <;> simp
theorem rowK_full (p n : ByteArray) (T : List (List Int)) (i : Nat) : rowK p n T i n.size = rowP p n T i := by
  unfold rowK rowP
  apply List.map_congr_left
  intro a ha
  rw [List.mem_range] at ha
  rw [if_pos ha]
theorem rowK_length (p n : ByteArray) (T : List (List Int)) (i k : Nat) : (rowK p n T i k).length = n.size := by unfold rowK; simp
theorem rowK_get (p n : ByteArray) (T : List (List Int)) (i k j : Nat) (h : j < (rowK p n T i k).length) : (rowK p n T i k)[j] = if j < k then cellP p n T i j else -1 := by simp [rowK]
theorem rowK_succ (p n : ByteArray) (T : List (List Int)) (i k : Nat) : rowK p n T i (k + 1) = (rowK p n T i k).set k (cellP p n T i k) := by
  apply List.ext_getElem
  · rw [List.length_set, rowK_length, rowK_length]
  · intro j h1 h2
    rw [List.getElem_set, rowK_get, rowK_get]
    by_cases hjk : k = j
    · subst hjk
      rw [if_pos (by omega), if_pos rfl]
    · rw [if_neg hjk]
      by_cases hj : j < k
      · rw [if_pos hj, if_pos (by omega)]
      · rw [if_neg hj, if_neg (by omega)]
theorem rowK_skip (p n : ByteArray) (T : List (List Int)) (i k : Nat) (h : cellP p n T i k = -1) : rowK p n T i (k + 1) = rowK p n T i k := by
  unfold rowK
  apply List.map_congr_left
  intro a ha
  by_cases hak : a = k
  · subst hak
    rw [if_pos (by omega), if_neg (by omega), h]
  · by_cases h1 : a < k
    · rw [if_pos h1, if_pos (by omega)]
    · rw [if_neg h1, if_neg (by omega)]
theorem set_other {T : List (List Int)} {i j : Nat} (h : i ≠ j) (R : List Int) : (T.set i R).getD j [] = T.getD j [] := by
  rw [List.getD_eq_getElem?_getD, List.getElem?_set_ne h, List.getD_eq_getElem?_getD]
theorem set_self {T : List (List Int)} {i : Nat} (h : i < T.length) (R : List Int) : (T.set i R).getD i [] = R := by
  rw [List.getD_eq_getElem?_getD, List.getElem?_set_self h]
  rfl
end Go.Proofs.Ytldhhomeifjbeaa.PA
