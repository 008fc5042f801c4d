/- What textedit.Validate and textedit.Invert answer, in plain Lean over the printed functions. Conditions: an argument's sizes. -/
import Derived.Test.YtlhaeonjobcdbaaTextPure0
import Derived.Test.YtlhaeonjobcdbaaTextPlain1
import Derived.Test.YtlhaeonjobcdbaaPAx13
namespace Go.Proofs.Ytlhaeonjobcdbaa.PA
open Go.RowKit Go.Proofs.YtlhaeonjobcdbaaW.PrintWords Go.Proofs.YtlhaeonjobcdbaaW.PrintLast
set_option linter.unusedVariables false

/-- Validate's loop, with every wrap -/
def valW (L : Int) : Int → Int → List S43 → Int
  | _, n, [] => if n > 2000 then 2 else 0
  | p, n, e :: es => if e.f0 ≤ p then 3 else if e.f1 < e.f0 then 3 else if e.f1 > L then 3 else valW L e.f1 (wrap64 (n + (wrap64 ((e.f2.size : Int) - (wrap64 (e.f1 - e.f0)))))) es
def vdS (L : Int) (l : List S43) : Int := if L > 2000 then 2 else if (l.length : Int) > 50 then 2 else valW L (-1) L l
theorem Validate_l0 (src : ByteArray) (suf : List S43) : ∀ (pre : List S43) (p n : Int), (pre ++ suf).length < 4611686018427387904 →
    Ev (fun k => textedit_Validate.l0 k src p n (pre ++ suf) ((pre ++ suf).length : Int) (pre.length : Int)) (valW (src.size : Int) p n suf) := by
  induction suf with
  | nil =>
    intro pre p n hl
    refine ⟨1, fun k hk => ?_⟩
    obtain ⟨k, rfl⟩ : ∃ m, k = m + 1 := ⟨k - 1, by omega⟩
    simp only [textedit_Validate.l0]
    rw [if_neg (by simp)]
    unfold valW
    split <;> rfl
  | cons e suf ih =>
    intro pre p n hl
    have hlt := len_mid pre suf e
    have hl' : (pre ++ e :: suf).length < 4611686018427387904 := hl
    obtain ⟨K, hK⟩ := ih (pre ++ [e]) e.f1 (wrap64 (n + (wrap64 ((e.f2.size : Int) - (wrap64 (e.f1 - e.f0)))))) (by rw [← app_snoc]; exact hl)
    refine ⟨K + 1, fun k hk => ?_⟩
    obtain ⟨k, rfl⟩ : ∃ m, k = m + 1 := ⟨k - 1, by omega⟩
    have := hK k (by omega)
    rw [← app_snoc pre suf e, len_snoc pre suf] at this
    simp only [textedit_Validate.l0]
    rw [if_pos hlt, if_pos (by omega), if_pos hlt, rd_mid, w64 (x := (pre.length : Int) + 1) (by omega) (by omega)]
    unfold valW
    split
    · rfl
    · split
      · rfl
      · split
        · rfl
        · exact this

theorem Validate_ev (src : ByteArray) (l : List S43) : Ev (fun k => textedit_Validate.f k src l) (vdS (src.size : Int) l) := by
  unfold textedit_Validate.f vdS
  by_cases h : (src.size : Int) > 2000
  · simp only [if_pos h]
    refine ⟨1, fun k hk => ?_⟩
    obtain ⟨k, rfl⟩ : ∃ m, k = m + 1 := ⟨k - 1, by omega⟩
    simp only [textedit_Validate.j0]
    rfl
  · simp only [if_neg h]
    by_cases h2 : (l.length : Int) > 50
    · rw [if_pos h2]
      refine ⟨1, fun k hk => ?_⟩
      obtain ⟨k, rfl⟩ : ∃ m, k = m + 1 := ⟨k - 1, by omega⟩
      simp only [textedit_Validate.j0]
      rw [if_pos (by simpa using h2)]
    · rw [if_neg h2]
      obtain ⟨K, hK⟩ := Validate_l0 src l [] (-1) (src.size : Int) (by simp; omega)
      refine ⟨K + 1, fun k hk => ?_⟩
      obtain ⟨k, rfl⟩ : ∃ m, k = m + 1 := ⟨k - 1, by omega⟩
      have := hK k (by omega)
      simp only [textedit_Validate.j0]
      rw [if_neg (by simpa using h2)]
      simpa using this

theorem total_lower (L : Int) : ∀ (l : List S43) (p : Int), okL L p l = true → p ≤ L → p ≤ L + total l := by
  intro l
  induction l with
  | nil => intro p _ hp; unfold total; omega
  | cons e es ih =>
    intro p hok hp
    unfold okL at hok
    split at hok
    · cases hok
    · split at hok
      · cases hok
      · split at hok
        · cases hok
        · have := ih e.f1 hok (by omega)
          unfold total
          omega

theorem valW_zero (L : Int) (h0 : 0 ≤ L) (hL : L ≤ 2000) : ∀ (l : List S43) (p n : Int) (m : Nat), -1 ≤ p → (∀ e ∈ l, e.f2.size ≤ 140737488351232) → l.length ≤ m → m ≤ 50 →
    -((50 - m : Nat) : Int) * 2000 ≤ n → n ≤ 2000 + ((50 - m : Nat) : Int) * 140737488351232 → (valW L p n l = 0 ↔ okL L p l = true ∧ n + total l ≤ 2000) := by
  intro l
  induction l with
  | nil =>
    intro p n m hp hs hm h50 hlo hhi
    unfold valW okL total
    split <;> simp <;> omega
  | cons e es ih =>
    intro p n m hp hs hm h50 hlo hhi
    simp only [List.length_cons] at hm
    have hse := hs e (by simp)
    unfold valW okL total
    split
    · simp
    · split
      · simp
      · split
        · simp
        · rw [w64 (x := e.f1 - e.f0) (by omega) (by omega), w64 (x := (e.f2.size : Int) - (e.f1 - e.f0)) (by omega) (by omega), w64 (by omega) (by omega)]
          obtain ⟨j, rfl⟩ : ∃ j, m = j + 1 := ⟨m - 1, by omega⟩
          rw [ih e.f1 _ j (by omega) (fun x hx => hs x (by simp [hx])) (by omega) (by omega) (by rw [show ((50 - j : Nat) : Int) = ((50 - (j + 1) : Nat) : Int) + 1 from by omega]; omega) (by rw [show ((50 - j : Nat) : Int) = ((50 - (j + 1) : Nat) : Int) + 1 from by omega]; omega)]
          rw [show n + (↑e.f2.size - (e.f1 - e.f0)) + total es = n + (↑e.f2.size - (e.f1 - e.f0) + total es) from by omega]

theorem valW_nonneg (L : Int) : ∀ (l : List S43) (p n : Int), valW L p n l = 0 ∨ valW L p n l = 2 ∨ valW L p n l = 3 := by
  intro l
  induction l with
  | nil => intro p n; unfold valW; split <;> simp
  | cons e es ih =>
    intro p n
    unfold valW
    split
    · simp
    · split
      · simp
      · split
        · simp
        · exact ih _ _

/-- A list of edits that can be applied to a text of length L. -/
structure Valid (L : Int) (l : List S43) : Prop where
  src : L ≤ 2000
  len : l.length ≤ 50
  ok : okL L (-1) l = true
  all : L + total l ≤ 2000
theorem vdS_zero {L : Int} {l : List S43} (h0 : 0 ≤ L) (hs : ∀ e ∈ l, e.f2.size ≤ 140737488351232) : vdS L l = 0 ↔ Valid L l := by
  unfold vdS
  constructor
  · intro h
    split at h
    · cases h
    · split at h
      · cases h
      · have := (valW_zero L h0 (by omega) l (-1) L 50 (by omega) hs (by omega) (by omega) (by simp; omega) (by simp; omega)).1 h
        exact ⟨by omega, by omega, this.1, this.2⟩
  · intro ⟨h1, h2, h3, h4⟩
    rw [if_neg (by omega), if_neg (by omega)]
    exact (valW_zero L h0 (by omega) l (-1) L 50 (by omega) hs (by omega) (by omega) (by simp; omega) (by simp; omega)).2 ⟨h3, h4⟩
/-- the inverse of the edits, behind a shift -/
def invP (src : ByteArray) : Int → List S43 → List S43
  | _, [] => []
  | sh, e :: es => ⟨e.f0 + sh, e.f0 + sh + (e.f2.size : Int), src.extract e.f0.toNat e.f1.toNat⟩ :: invP src (sh + ((e.f2.size : Int) - (e.f1 - e.f0))) es
theorem invP_length (src : ByteArray) : ∀ (l : List S43) (sh : Int), (invP src sh l).length = l.length := by
  intro l
  induction l with
  | nil => intro sh; rfl
  | cons e es ih => intro sh; simp [invP, ih]

theorem Invert_l0 (src : ByteArray) (hsrc : src.size ≤ 2000) (suf : List S43) : ∀ (pre acc : List S43) (p sh : Int) (m : Nat), -1 ≤ p → okL (src.size : Int) p suf = true → (∀ e ∈ suf, e.f2.size ≤ 140737488351232) →
    suf.length ≤ m → m ≤ 50 → acc.length + suf.length ≤ 50 → (pre ++ suf).length ≤ 50 → -((50 - m : Nat) : Int) * 2000 ≤ sh → sh ≤ ((50 - m : Nat) : Int) * 140737488351232 →
    Ev (fun k => textedit_Invert.l0 k src acc sh (pre ++ suf) ((pre ++ suf).length : Int) (pre.length : Int)) (acc ++ invP src sh suf, 0) := by
  induction suf with
  | nil =>
    intro pre acc p sh m hp hok hs hm h50 hacc hl hlo hhi
    refine ⟨1, fun k hk => ?_⟩
    obtain ⟨k, rfl⟩ : ∃ m, k = m + 1 := ⟨k - 1, by omega⟩
    simp only [textedit_Invert.l0]
    rw [if_neg (by simp)]
    simp [invP]
  | cons e suf ih =>
    intro pre acc p sh m hp hok hs hm h50 hacc hl hlo hhi
    have hlt := len_mid pre suf e
    have hse := hs e (by simp)
    simp only [List.length_cons] at hm hacc
    unfold okL at hok
    split at hok
    · cases hok
    · split at hok
      · cases hok
      · split at hok
        · cases hok
        · obtain ⟨j, rfl⟩ : ∃ j, m = j + 1 := ⟨m - 1, by omega⟩
          have hj : ((50 - j : Nat) : Int) = ((50 - (j + 1) : Nat) : Int) + 1 := by omega
          have h64 : (pre ++ e :: suf).length < 4611686018427387904 := by omega
          obtain ⟨K, hK⟩ := ih (pre ++ [e]) (acc ++ [⟨e.f0 + sh, e.f0 + sh + (e.f2.size : Int), src.extract e.f0.toNat e.f1.toNat⟩]) e.f1 (sh + ((e.f2.size : Int) - (e.f1 - e.f0))) j (by omega) hok (fun x hx => hs x (by simp [hx]))
            (by omega) (by omega) (by simp; omega) (by rw [← app_snoc]; exact hl) (by rw [hj]; omega) (by rw [hj]; omega)
          refine ⟨K + 1, fun k hk => ?_⟩
          obtain ⟨k, rfl⟩ : ∃ m, k = m + 1 := ⟨k - 1, by omega⟩
          have := hK k (by omega)
          rw [← app_snoc pre suf e, len_snoc pre suf] at this
          simp only [textedit_Invert.l0]
          rw [if_pos hlt, if_pos (by omega), if_pos hlt, rd_mid, w64 (x := (pre.length : Int) + 1) (by omega) (by omega)]
          rw [if_pos (by omega), if_pos (by omega), if_pos (by omega), if_pos (by omega)]
          rw [w64 (x := e.f1 - e.f0) (by omega) (by omega), w64 (x := (e.f2.size : Int) - (e.f1 - e.f0)) (by omega) (by omega), w64 (x := sh + _) (by omega) (by omega), w64 (x := e.f0 + sh) (by omega) (by omega), w64 (x := e.f0 + sh + _) (by omega) (by omega)]
          simp only [invP]
          rw [show acc ++ (⟨e.f0 + sh, e.f0 + sh + (e.f2.size : Int), src.extract e.f0.toNat e.f1.toNat⟩ : S43) :: invP src (sh + ((e.f2.size : Int) - (e.f1 - e.f0))) suf = (acc ++ [⟨e.f0 + sh, e.f0 + sh + (e.f2.size : Int), src.extract e.f0.toNat e.f1.toNat⟩]) ++ invP src (sh + ((e.f2.size : Int) - (e.f1 - e.f0))) suf from by simp]
          exact this

/-- Invert -/
def invS (src : ByteArray) (l : List S43) : List S43 × Int := if vdS (src.size : Int) l = 0 then (invP src 0 l, 0) else ([], vdS (src.size : Int) l)
theorem Invert_ev (src : ByteArray) (l : List S43) (hs : ∀ e ∈ l, e.f2.size ≤ 140737488351232) : Ev (fun k => textedit_Invert.f k src l) (invS src l) := by
  unfold textedit_Invert.f
  refine Ev.bind (f := fun k t => if t = 0 then (textedit_Invert.l0 k src ([] : List S43) 0 l (l.length : Int) 0) else some (([] : List S43), t)) (Validate_ev src l) ?_
  unfold invS
  by_cases h : vdS (src.size : Int) l = 0
  · have hv := (vdS_zero (by omega) hs).1 h
    simp only [if_pos h]
    have := Invert_l0 src (by have := hv.src; omega) l [] [] (-1) 0 50 (by omega) hv.ok hs hv.len (by omega) (by simp; exact hv.len) (by simp; exact hv.len) (by simp) (by simp)
    simpa using this
  · simp only [if_neg h]
    exact Ev.now _

theorem extract_size (src : ByteArray) (a b : Int) (h0 : 0 ≤ a) (h1 : a ≤ b) (h2 : b ≤ (src.size : Int)) : (((src.extract a.toNat b.toNat).size : Nat) : Int) = b - a := by
  rw [ByteArray.size_extract]
  omega

/-- The inverse is in order. -/
theorem inv_ok (src : ByteArray) (M : Int) : ∀ (l : List S43) (p sh : Int), -1 ≤ p → okL (src.size : Int) p l = true → p ≤ src.size → (src.size : Int) + sh + total l ≤ M → okL M (p + sh) (invP src sh l) = true := by
  intro l
  induction l with
  | nil => intro p sh _ _ _ _; rfl
  | cons e es ih =>
    intro p sh hp hok hps hM
    unfold okL at hok
    split at hok
    · cases hok
    · split at hok
      · cases hok
      · split at hok
        · cases hok
        · unfold total at hM
          have htl := total_lower (src.size : Int) es e.f1 hok (by omega)
          unfold invP okL
          simp only
          rw [if_neg (by omega), if_neg (by omega), if_neg (by omega)]
          have := ih e.f1 (sh + ((e.f2.size : Int) - (e.f1 - e.f0))) (by omega) hok (by omega) (by omega)
          rw [show e.f0 + sh + (e.f2.size : Int) = e.f1 + (sh + ((e.f2.size : Int) - (e.f1 - e.f0))) from by omega]
          exact this
theorem inv_total (src : ByteArray) : ∀ (l : List S43) (p sh : Int), -1 ≤ p → okL (src.size : Int) p l = true → total (invP src sh l) = - total l := by
  intro l
  induction l with
  | nil => intro p sh _ _; rfl
  | cons e es ih =>
    intro p sh hp hok
    unfold okL at hok
    split at hok
    · cases hok
    · split at hok
      · cases hok
      · split at hok
        · cases hok
        · unfold invP total
          simp only
          rw [ih e.f1 _ (by omega) hok, extract_size src e.f0 e.f1 (by omega) (by omega) (by omega)]
          omega
theorem inv_size (src : ByteArray) (hsrc : src.size ≤ 2000) : ∀ (l : List S43) (sh : Int), ∀ e ∈ invP src sh l, e.f2.size ≤ 140737488351232 := by
  intro l
  induction l with
  | nil => intro sh e h; simp [invP] at h
  | cons e es ih =>
    intro sh x h
    simp only [invP, List.mem_cons] at h
    rcases h with rfl | h
    · simp only [ByteArray.size_extract]; omega
    · exact ih _ x h
theorem inv_valid {src : ByteArray} {l : List S43} (h : Valid (src.size : Int) l) : Valid ((src.size : Int) + total l) (invP src 0 l) := by
  refine ⟨h.all, by rw [invP_length]; exact h.len, ?_, ?_⟩
  · have := inv_ok src ((src.size : Int) + total l) l (-1) 0 (by omega) h.ok (by omega) (by omega)
    simpa using this
  · rw [inv_total src l (-1) 0 (by omega) h.ok]
    have := h.src
    omega
end Go.Proofs.Ytlhaeonjobcdbaa.PA
