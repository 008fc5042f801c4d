/- What anchor.validate, mapOffset, Map, MapRange, MapAll and the examples of the chapter answer, in plain Lean over the printed functions. Conditions: the lists are shorter than 2^62. -/
import Derived.Test.YtlhaeonjobcdbaaPAx8
import Derived.Test.YtlhaeonjobcdbaaPAx4
namespace Go.Proofs.Ytlhaeonjobcdbaa.PA
open Go.RowKit Go.Proofs.YtlhaeonjobcdbaaW.PrintWords Go.Proofs.YtlhaeonjobcdbaaW.PrintLast
set_option linter.unusedVariables false

theorem w64 {x : Int} (h0 : -9223372036854775808 ≤ x) (h1 : x ≤ 9223372036854775807) : wrap64 x = x := by unfold wrap64; omega
theorem rd_mid (pre suf : List S43) (e : S43) : rd_T43 (pre ++ e :: suf) (pre.length : Int) = e := by
  unfold rd_T43
  rw [Int.toNat_natCast, List.getD_eq_getElem?_getD, List.getElem?_append_right (Nat.le_refl _)]
  simp
theorem len_mid (pre suf : List S43) (e : S43) : (pre.length : Int) < ((pre ++ e :: suf).length : Int) := by
  rw [List.length_append, List.length_cons]; omega
theorem len_snoc (pre suf : List S43) (e : S43) : ((pre ++ [e]).length : Int) = (pre.length : Int) + 1 := by
  rw [List.length_append]; simp
theorem app_snoc (pre suf : List S43) (e : S43) : pre ++ e :: suf = (pre ++ [e]) ++ suf := by simp

/-- the order of edits behind a previous end -/
def okFrom : Int → List S43 → Bool
  | _, [] => true
  | p, e :: es => if e.f0 ≤ p then false else if e.f1 < e.f0 then false else okFrom e.f1 es
def vS (l : List S43) : Int := if (l.length : Int) > 50 then 2 else if okFrom (-1) l = true then 0 else 3

theorem validate_l0 (suf : List S43) : ∀ (pre : List S43) (p : Int), (pre ++ suf).length < 4611686018427387904 →
    Ev (fun k => anchor_validate.l0 k p (pre ++ suf) ((pre ++ suf).length : Int) (pre.length : Int)) (if okFrom p suf = true then 0 else 3) := by
  induction suf with
  | nil =>
    intro pre p hl
    refine ⟨1, fun k hk => ?_⟩
    obtain ⟨k, rfl⟩ : ∃ m, k = m + 1 := ⟨k - 1, by omega⟩
    simp only [anchor_validate.l0]
    rw [if_neg (by simp)]
    simp [okFrom]
  | cons e suf ih =>
    intro pre p hl
    have hlt := len_mid pre suf e
    have hl' : (pre ++ e :: suf).length < 4611686018427387904 := hl
    obtain ⟨K, hK⟩ := ih (pre ++ [e]) e.f1 (by rw [← app_snoc]; exact hl)
    refine ⟨K + 1, fun k hk => ?_⟩
    obtain ⟨k, rfl⟩ : ∃ m, k = m + 1 := ⟨k - 1, by omega⟩
    have := hK k (by omega)
    rw [← app_snoc pre suf e, len_snoc pre suf] at this
    simp only [anchor_validate.l0]
    rw [if_pos hlt, if_pos (by omega), if_pos hlt, rd_mid, w64 (by omega) (by omega)]
    unfold okFrom
    split
    · rename_i h; rw [if_neg (by simp)]
    · split
      · rw [if_neg (by simp)]
      · exact this

theorem validate_ev (l : List S43) : Ev (fun k => anchor_validate.f k l) (vS l) := by
  unfold anchor_validate.f vS
  by_cases h : (l.length : Int) > 50
  · simp only [if_pos h]
    exact Ev.now _
  · simp only [if_neg h]
    have := validate_l0 l [] (-1) (by simp; omega)
    simpa using this

/-- whether an edit lies before an offset -/
def passes (e : S43) (off : Int) (right : Bool) : Bool := decide (e.f1 < off) || (decide (e.f1 = off) && (decide (e.f0 < off) || right))
/-- mapOffset, with every wrap -/
def mapW (off : Int) (right : Bool) : Int → List S43 → Int
  | sh, [] => wrap64 (off + sh)
  | sh, e :: es => if passes e off right = true then mapW off right (wrap64 (sh + (wrap64 ((e.f2.size : Int) - (wrap64 (e.f1 - e.f0)))))) es
    else if e.f0 < off then (if right = true then wrap64 ((wrap64 (e.f0 + sh)) + (e.f2.size : Int)) else wrap64 (e.f0 + sh)) else wrap64 (off + sh)

theorem mapOffset_j2 (off sh : Int) (b right : Bool) (s e : Int) (t : ByteArray) (k : Nat) :
    anchor_mapOffset.j2 (k + 1) off sh b s e t = some (if b = true then wrap64 ((wrap64 (s + sh)) + (t.size : Int)) else if s < off then wrap64 (s + sh) else wrap64 (off + sh)) := by
  simp only [anchor_mapOffset.j2]
  split
  · rfl
  · split <;> rfl
theorem mapOffset_j1f (off sh : Int) (right : Bool) (l : List S43) (n i : Int) (s e : Int) (t : ByteArray) (k : Nat) :
    anchor_mapOffset.j1 (k + 2) off right sh l n i false s e t = some (if s < off then (if right = true then wrap64 ((wrap64 (s + sh)) + (t.size : Int)) else wrap64 (s + sh)) else wrap64 (off + sh)) := by
  simp only [anchor_mapOffset.j1]
  rw [if_neg (by simp)]
  split
  · rename_i h
    rw [mapOffset_j2 _ _ _ right]
    cases right <;> simp [h]
  · rename_i h
    rw [mapOffset_j2 _ _ _ right]
    simp [h]
theorem mapOffset_j1t (off sh : Int) (right : Bool) (l : List S43) (n i : Int) (s e : Int) (t : ByteArray) (k : Nat) :
    anchor_mapOffset.j1 (k + 1) off right sh l n i true s e t = anchor_mapOffset.l0 k off right (wrap64 (sh + (wrap64 ((t.size : Int) - (wrap64 (e - s)))))) l n (wrap64 (i + 1)) := by
  simp only [anchor_mapOffset.j1]
  rw [if_pos trivial]

theorem mapOffset_l0 (off : Int) (right : Bool) (suf : List S43) : ∀ (pre : List S43) (sh : Int), (pre ++ suf).length < 4611686018427387904 →
    Ev (fun k => anchor_mapOffset.l0 k off right sh (pre ++ suf) ((pre ++ suf).length : Int) (pre.length : Int)) (mapW off right sh suf) := by
  induction suf with
  | nil =>
    intro pre sh hl
    refine ⟨1, fun k hk => ?_⟩
    obtain ⟨k, rfl⟩ : ∃ m, k = m + 1 := ⟨k - 1, by omega⟩
    simp only [anchor_mapOffset.l0]
    rw [if_neg (by simp)]
    rfl
  | cons e suf ih =>
    intro pre sh hl
    have hlt := len_mid pre suf e
    have hl' : (pre ++ e :: suf).length < 4611686018427387904 := hl
    obtain ⟨K, hK⟩ := ih (pre ++ [e]) (wrap64 (sh + (wrap64 ((e.f2.size : Int) - (wrap64 (e.f1 - e.f0)))))) (by rw [← app_snoc]; exact hl)
    refine ⟨K + 3, fun k hk => ?_⟩
    obtain ⟨k, rfl⟩ : ∃ m, k = m + 3 := ⟨k - 3, by omega⟩
    have := hK (k + 1) (by omega)
    rw [← app_snoc pre suf e, len_snoc pre suf] at this
    simp only [anchor_mapOffset.l0]
    rw [if_pos hlt, if_pos (by omega), if_pos hlt, rd_mid]
    unfold mapW
    by_cases h1 : e.f1 < off
    · rw [if_pos h1, if_pos (by simp [passes, h1]), decide_eq_true h1, mapOffset_j1t, w64 (x := (pre.length : Int) + 1) (by omega) (by omega)]
      exact this
    · rw [if_neg h1]
      by_cases h2 : e.f1 = off
      · rw [if_pos h2]
        by_cases h3 : e.f0 < off
        · rw [if_pos h3, if_pos (by simp [passes, h2, h3]), mapOffset_j1t, w64 (x := (pre.length : Int) + 1) (by omega) (by omega)]
          exact this
        · rw [if_neg h3]
          cases right with
          | true =>
            rw [if_pos (by simp [passes, h2]), mapOffset_j1t, w64 (x := (pre.length : Int) + 1) (by omega) (by omega)]
            exact this
          | false =>
            rw [if_neg (by simp [passes, h1, h3]), mapOffset_j1f]
      · rw [if_neg h2, if_neg (by simp [passes, h1, h2]), mapOffset_j1f]

theorem mapOffset_ev (l : List S43) (off : Int) (right : Bool) (hl : l.length < 4611686018427387904) : Ev (fun k => anchor_mapOffset.f k l off right) (mapW off right 0 l) := by
  have := mapOffset_l0 off right l [] 0 (by simpa using hl)
  simpa [anchor_mapOffset.f] using this

/-- Map -/
def mapS (l : List S43) (off : Int) (right : Bool) : Int × Int := if vS l = 0 then (if off < 0 then (0, 1) else (mapW off right 0 l, 0)) else (0, vS l)
theorem Map_ev (l : List S43) (off : Int) (right : Bool) (hl : l.length < 4611686018427387904) : Ev (fun k => anchor_Map.f k l off right) (mapS l off right) := by
  unfold anchor_Map.f
  refine Ev.bind (f := fun k t105 => if t105 = 0 then (anchor_Map.j0 k l off right t105 (decide (off < 0))) else (anchor_Map.j0 k l off right t105 false)) (validate_ev l) ?_
  unfold mapS
  by_cases h : vS l = 0
  · simp only [if_pos h]
    by_cases h2 : off < 0
    · refine ⟨1, fun k hk => ?_⟩
      obtain ⟨k, rfl⟩ : ∃ m, k = m + 1 := ⟨k - 1, by omega⟩
      simp only [anchor_Map.j0]
      rw [if_pos (by simpa using h2), if_pos h2]
    · obtain ⟨K, hK⟩ := mapOffset_ev l off right hl
      refine ⟨K + 1, fun k hk => ?_⟩
      obtain ⟨k, rfl⟩ : ∃ m, k = m + 1 := ⟨k - 1, by omega⟩
      simp only [anchor_Map.j0]
      dsimp only at hK
      rw [if_neg (by simpa using h2), if_pos h, hK k (by omega), if_neg h2]
      rfl
  · simp only [if_neg h]
    refine ⟨1, fun k hk => ?_⟩
    obtain ⟨k, rfl⟩ : ∃ m, k = m + 1 := ⟨k - 1, by omega⟩
    simp only [anchor_Map.j0]
    rw [if_neg (by simp), if_neg h]

/-- the examples hold: by running them -/
theorem examples_ev : Ev (fun k => glossatorkeep4_anchorExamples.f k) true := by
  refine Ev.of (k := 40) (fun k => glossatorkeep4_anchorExamples.mono k) ?_
  decide +kernel

/-! ### the plain law -/
/-- mapOffset without wraps -/
def mapP (off : Int) (right : Bool) : Int → List S43 → Int
  | sh, [] => off + sh
  | sh, e :: es => if passes e off right = true then mapP off right (sh + ((e.f2.size : Int) - (e.f1 - e.f0))) es
    else if e.f0 < off then (if right = true then (e.f0 + sh) + (e.f2.size : Int) else e.f0 + sh) else off + sh

theorem passes_iff (e : S43) (off : Int) (right : Bool) : passes e off right = true ↔ (e.f1 < off ∨ e.f1 = off ∧ (e.f0 < off ∨ right = true)) := by
  simp [passes]

/-- no wrap where the offset is below 2^40 and the texts are as long as an argument's strings may be -/
theorem mapW_eq (off : Int) (right : Bool) (h0 : 0 ≤ off) (h1 : off ≤ 1099511627776) : ∀ (l : List S43) (p sh : Int) (n : Nat), -1 ≤ p → okFrom p l = true → (∀ e ∈ l, e.f2.size ≤ 140737488351232) → l.length ≤ n → n ≤ 50 →
    -((50 - n : Nat) : Int) * 1099511627776 ≤ sh → sh ≤ ((50 - n : Nat) : Int) * 140737488351232 → mapW off right sh l = mapP off right sh l := by
  intro l
  induction l with
  | nil =>
    intro p sh n hp hok hs hn h50 hlo hhi
    unfold mapW mapP
    exact w64 (by omega) (by omega)
  | cons e es ih =>
    intro p sh n hp hok hs hn h50 hlo hhi
    simp only [List.length_cons] at hn
    unfold okFrom at hok
    split at hok
    · cases hok
    · split at hok
      · cases hok
      · rename_i hp1 hp2
        have hse := hs e (by simp)
        unfold mapW mapP
        by_cases hps : passes e off right = true
        · rw [if_pos hps, if_pos hps]
          have hpi := (passes_iff e off right).1 hps
          have he1 : e.f1 ≤ off := by omega
          rw [w64 (x := e.f1 - e.f0) (by omega) (by omega), w64 (x := (e.f2.size : Int) - (e.f1 - e.f0)) (by omega) (by omega), w64 (by omega) (by omega)]
          obtain ⟨m, rfl⟩ : ∃ m, n = m + 1 := ⟨n - 1, by omega⟩
          refine ih e.f1 _ m (by omega) hok (fun x hx => hs x (by simp [hx])) (by omega) (by omega) ?_ ?_
          · rw [show ((50 - m : Nat) : Int) = ((50 - (m + 1) : Nat) : Int) + 1 from by omega]; omega
          · rw [show ((50 - m : Nat) : Int) = ((50 - (m + 1) : Nat) : Int) + 1 from by omega]; omega
        · rw [if_neg hps, if_neg hps]
          by_cases h2 : e.f0 < off
          · rw [if_pos h2, if_pos h2, w64 (x := e.f0 + sh) (by omega) (by omega)]
            split
            · exact w64 (by omega) (by omega)
            · rfl
          · rw [if_neg h2, if_neg h2]
            exact w64 (by omega) (by omega)

theorem mapP_lower (off : Int) (right : Bool) : ∀ (l : List S43) (p sh : Int), okFrom p l = true → p ≤ off → p + sh ≤ mapP off right sh l := by
  intro l
  induction l with
  | nil => intro p sh _ hp; unfold mapP; omega
  | cons e es ih =>
    intro p sh hok hp
    unfold okFrom at hok
    split at hok
    · cases hok
    · split at hok
      · cases hok
      · rename_i hp1 hp2
        unfold mapP
        by_cases hps : passes e off right = true
        · rw [if_pos hps]
          have hpi := (passes_iff e off right).1 hps
          have := ih e.f1 (sh + ((e.f2.size : Int) - (e.f1 - e.f0))) hok (by omega)
          omega
        · rw [if_neg hps]
          split
          · split <;> omega
          · omega

theorem mapP_mono (a b : Int) (right : Bool) (hab : a ≤ b) : ∀ (l : List S43) (p sh : Int), okFrom p l = true → mapP a right sh l ≤ mapP b right sh l := by
  intro l
  induction l with
  | nil => intro p sh _; unfold mapP; omega
  | cons e es ih =>
    intro p sh hok
    unfold okFrom at hok
    split at hok
    · cases hok
    · split at hok
      · cases hok
      · rename_i hp1 hp2
        have hia := passes_iff e a right
        have hib := passes_iff e b right
        unfold mapP
        by_cases hb : passes e b right = true
        · have hb' := hib.1 hb
          rw [if_pos hb]
          by_cases ha : passes e a right = true
          · rw [if_pos ha]
            exact ih e.f1 _ hok
          · rw [if_neg ha]
            have := mapP_lower b right es e.f1 (sh + ((e.f2.size : Int) - (e.f1 - e.f0))) hok (by omega)
            have ha' : ¬ (e.f1 < a ∨ e.f1 = a ∧ (e.f0 < a ∨ right = true)) := fun h => ha (hia.2 h)
            split
            · split <;> omega
            · omega
        · rw [if_neg hb]
          have hb' : ¬ (e.f1 < b ∨ e.f1 = b ∧ (e.f0 < b ∨ right = true)) := fun h => hb (hib.2 h)
          have ha : ¬ passes e a right = true := fun h => by
            have := hia.1 h
            exact hb' (by
              rcases this with h1 | ⟨h1, h2⟩
              · exact .inl (by omega)
              · rcases Int.lt_or_eq_of_le hab with h3 | h3
                · exact .inl (by omega)
                · subst h3; exact .inr ⟨h1, h2⟩)
          rw [if_neg ha]
          by_cases h1 : e.f0 < a
          · rw [if_pos h1, if_pos (show e.f0 < b by omega)]
            exact Int.le_refl _
          · rw [if_neg h1]
            split
            · split <;> omega
            · omega

theorem mapP_right (off : Int) : ∀ (l : List S43) (p sh : Int), okFrom p l = true → mapP off false sh l ≤ mapP off true sh l := by
  intro l
  induction l with
  | nil => intro p sh _; unfold mapP; omega
  | cons e es ih =>
    intro p sh hok
    unfold okFrom at hok
    split at hok
    · cases hok
    · split at hok
      · cases hok
      · rename_i hp1 hp2
        have hil := passes_iff e off false
        have hir := passes_iff e off true
        unfold mapP
        by_cases hl : passes e off false = true
        · have hr : passes e off true = true := hir.2 (by
            have := hil.1 hl
            rcases this with h | ⟨h, h2⟩
            · exact .inl h
            · exact .inr ⟨h, .inr rfl⟩)
          rw [if_pos hl, if_pos hr]
          exact ih e.f1 _ hok
        · rw [if_neg hl]
          have hl' : ¬ (e.f1 < off ∨ e.f1 = off ∧ (e.f0 < off ∨ false = true)) := fun h => hl (hil.2 h)
          by_cases hr : passes e off true = true
          · rw [if_pos hr]
            have hr' := hir.1 hr
            have := mapP_lower off true es e.f1 (sh + ((e.f2.size : Int) - (e.f1 - e.f0))) hok (by omega)
            split
            · simp; omega
            · omega
          · rw [if_neg hr]
            split
            · simp; omega
            · omega

theorem vS_zero {l : List S43} (h : vS l = 0) : l.length ≤ 50 ∧ okFrom (-1) l = true := by
  unfold vS at h
  split at h
  · cases h
  · split at h
    · exact ⟨by omega, ‹_›⟩
    · cases h
theorem mapS_zero {l : List S43} {off : Int} {right : Bool} (h : (mapS l off right).2 = 0) : vS l = 0 ∧ 0 ≤ off ∧ (mapS l off right).1 = mapW off right 0 l := by
  unfold mapS at h ⊢
  split at h
  · rename_i hv
    split at h
    · cases h
    · rename_i ho
      rw [if_pos hv, if_neg ho]
      exact ⟨hv, by omega, rfl⟩
  · rename_i hv
    exact absurd h hv
theorem mapS_eq {l : List S43} {off : Int} {right : Bool} (hs : ∀ e ∈ l, e.f2.size ≤ 140737488351232) (ho : off ≤ 1099511627776) (h : (mapS l off right).2 = 0) : (mapS l off right).1 = mapP off right 0 l := by
  obtain ⟨hv, h0, he⟩ := mapS_zero h
  obtain ⟨h50, hok⟩ := vS_zero hv
  rw [he]
  exact mapW_eq off right h0 ho l (-1) 0 50 (by omega) hok hs h50 (by omega) (by simp) (by simp)
end Go.Proofs.Ytlhaeonjobcdbaa.PA
