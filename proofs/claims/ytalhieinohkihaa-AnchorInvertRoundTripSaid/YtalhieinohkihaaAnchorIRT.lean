/- AnchorInvertRoundTrip: an offset that no edit touches is restored by mapping it through the edits and then through their inverse. Conditions: those of an argument's size alone. -/
import Derived.Test.YtalhieinohkihaaAnchorPure2
import Derived.Test.YtalhieinohkihaaPAx4
namespace Go.Proofs.Ytalhieinohkihaa.PA
open Go.RowKit Go.Proofs.YtalhieinohkihaaW.PrintWords Go.Proofs.YtalhieinohkihaaW.PrintLast
set_option linter.unusedVariables false

/-- no edit touches the offset -/
def free (off : Int) (l : List S31) : Prop := ∀ e ∈ l, ¬ (e.f0 ≤ off ∧ off ≤ e.f1)
theorem mapP_back (src : ByteArray) (off : Int) (right : Bool) : ∀ (l : List S31) (p sh : Int), -1 ≤ p → p < off → okL (src.size : Int) p l = true → free off l →
    p + sh < mapP off right sh l ∧ mapP (mapP off right sh l) right (-sh) (invP src sh l) = off := by
  intro l
  induction l with
  | nil => intro p sh _ hp _ _; simp only [mapP, invP]; omega
  | cons e es ih =>
    intro p sh hp hpo hok hf
    unfold okL at hok
    split at hok
    · cases hok
    · split at hok
      · cases hok
      · split at hok
        · cases hok
        · have hfe := hf e (by simp)
          have hfs : free off es := fun x hx => hf x (by simp [hx])
          rcases Int.lt_or_le e.f1 off with h | h
          · have hm : mapP off right sh (e :: es) = mapP off right (sh + ((e.f2.size : Int) - (e.f1 - e.f0))) es := by
              rw [mapP, if_pos ((passes_iff e off right).2 (.inl h))]
            rw [hm]
            obtain ⟨h1, h2⟩ := ih e.f1 (sh + ((e.f2.size : Int) - (e.f1 - e.f0))) (by omega) h hok hfs
            refine ⟨by omega, ?_⟩
            generalize mapP off right (sh + ((e.f2.size : Int) - (e.f1 - e.f0))) es = m at h1 h2 ⊢
            unfold invP mapP
            rw [if_pos ((passes_iff _ _ right).2 (.inl (by simp only; omega)))]
            simp only
            rw [extract_size src e.f0 e.f1 (by omega) (by omega) (by omega)]
            rw [show -sh + (e.f1 - e.f0 - (e.f0 + sh + (e.f2.size : Int) - (e.f0 + sh))) = -(sh + ((e.f2.size : Int) - (e.f1 - e.f0))) from by omega]
            exact h2
          · have h0 : off < e.f0 := by omega
            have hm : mapP off right sh (e :: es) = off + sh := by
              rw [mapP, if_neg (fun hp => by have := (passes_iff e off right).1 hp; omega), if_neg (by omega)]
            rw [hm]
            refine ⟨by omega, ?_⟩
            unfold invP mapP
            rw [if_neg (fun hp => by have := (passes_iff _ _ right).1 hp; simp only at this; omega)]
            simp only
            rw [if_neg (by omega)]
            omega

theorem mapP_upper (off L : Int) (right : Bool) (hL : off ≤ L) {l : List S31} (hok : okL L (-1) l = true) : mapP off right 0 l ≤ L + total l := by
  have key : ∀ (l : List S31) (p sh : Int), okL L p l = true → mapP L true sh l = L + sh + total l := by
    intro l
    induction l with
    | nil => intro p sh _; simp only [mapP, total]; omega
    | cons e es ih =>
      intro p sh hok
      unfold okL at hok
      split at hok
      · cases hok
      · split at hok
        · cases hok
        · split at hok
          · cases hok
          · unfold mapP total
            rw [if_pos ((passes_iff e L true).2 (by rcases Int.lt_or_eq_of_le (show e.f1 ≤ L by omega) with h | h <;> simp [h]))]
            rw [ih e.f1 _ hok]
            omega
  have hf := okL_from L l (-1) hok
  have h1 := mapP_mono off L true hL l (-1) 0 hf
  rw [key l (-1) 0 hok] at h1
  cases right with
  | true => omega
  | false => have := mapP_right off l (-1) 0 hf; omega

theorem irt_l0 (l : List S31) (off : Int) (right : Bool) (inv : List S31) (m : Int) (hinv : free off l → Ev (fun k => anchor_Map.f k inv m right) (off, 0)) (suf : List S31) : ∀ (pre : List S31), l = pre ++ suf → (∀ e ∈ pre, ¬ (e.f0 ≤ off ∧ off ≤ e.f1)) → l.length < 4611686018427387904 →
    Ev (fun k => glossatorkeep4_AnchorInvertRoundTrip.l0 k l off right inv m (pre.length : Int)) true := by
  obtain ⟨Ke, hKe⟩ := examples_ev
  dsimp only at hKe
  induction suf with
  | nil =>
    intro pre hl hf hlen
    obtain ⟨K, hK⟩ := hinv (by rw [hl]; simpa [free] using hf)
    dsimp only at hK
    refine ⟨K + Ke + 1, fun k hk => ?_⟩
    obtain ⟨k, rfl⟩ : ∃ m, k = m + 1 := ⟨k - 1, by omega⟩
    simp only [glossatorkeep4_AnchorInvertRoundTrip.l0]
    rw [if_neg (by rw [hl]; simp), hK k (by omega), hKe k (by omega)]
    simp
  | cons e suf ih =>
    intro pre hl hf hlen
    have hlt := len_mid pre suf e
    rw [← hl] at hlt
    by_cases ht : e.f0 ≤ off ∧ off ≤ e.f1
    · refine ⟨Ke + 1, fun k hk => ?_⟩
      obtain ⟨k, rfl⟩ : ∃ m, k = m + 1 := ⟨k - 1, by omega⟩
      simp only [glossatorkeep4_AnchorInvertRoundTrip.l0]
      rw [if_pos hlt, if_pos (by omega), show rd_T31 l (pre.length : Int) = e from by rw [hl]; exact rd_mid pre suf e, if_pos ht.1, if_pos ht.2, hKe k (by omega)]
      rfl
    · obtain ⟨K, hK⟩ := ih (pre ++ [e]) (by rw [hl]; simp) (fun x hx => by
        rcases List.mem_append.1 hx with hx | hx
        · exact hf x hx
        · simp only [List.mem_singleton] at hx; subst hx; exact ht) hlen
      dsimp only at hK
      refine ⟨K + 1, fun k hk => ?_⟩
      obtain ⟨k, rfl⟩ : ∃ m, k = m + 1 := ⟨k - 1, by omega⟩
      have := hK k (by omega)
      rw [len_snoc pre suf] at this
      simp only [glossatorkeep4_AnchorInvertRoundTrip.l0]
      rw [if_pos hlt, if_pos (by omega), show rd_T31 l (pre.length : Int) = e from by rw [hl]; exact rd_mid pre suf e, w64 (x := (pre.length : Int) + 1) (by omega) (by omega)]
      by_cases h0 : e.f0 ≤ off
      · rw [if_pos h0, if_neg (fun h => ht ⟨h0, h⟩)]
        exact this
      · rw [if_neg h0]
        exact this

theorem AnchorInvertRoundTrip_pure (src : ByteArray) (l : List S31) (off : Int) (right : Bool) (w0 : src.size ≤ 140737488351232) (hl0 : l.length * 32 ≤ 140737488351232) (hs0 : ∀ y ∈ l, (Lit.int .i64 y.f0).wf = true ∧ (Lit.int .i64 y.f1).wf = true ∧ y.f2.size ≤ 140737488351232) (w2 : (Lit.int .i64 off).wf = true) :
    ∃ k, glossatorkeep4_AnchorInvertRoundTrip.f k src l off right = some true := by
  have hl : l.length < 4611686018427387904 := by omega
  have hs : ∀ e ∈ l, e.f2.size ≤ 140737488351232 := fun e he => (hs0 e he).2.2
  refine Ev.rounds (g := fun k => glossatorkeep4_AnchorInvertRoundTrip.f k src l off right) ?_
  unfold glossatorkeep4_AnchorInvertRoundTrip.f
  obtain ⟨K0, h0⟩ := examples_ev
  obtain ⟨K1, h1⟩ := Invert_ev src l hs
  obtain ⟨K2, h2⟩ := Map_ev l off right hl
  have ht : ∀ inv m, Ev (fun k => glossatorkeep4_AnchorInvertRoundTrip.j0 k l off right inv m true) true := fun inv m => by
    refine ⟨K0 + 1, fun k hk => ?_⟩
    obtain ⟨k, rfl⟩ : ∃ m, k = m + 1 := ⟨k - 1, by omega⟩
    dsimp only at h0
    simp only [glossatorkeep4_AnchorInvertRoundTrip.j0]
    rw [h0 k (by omega)]
    rfl
  obtain ⟨K3, h3⟩ := ht (invS src l).1 (mapS l off right).1
  by_cases hg : (invS src l).2 = 0 ∧ (mapS l off right).2 = 0 ∧ ¬ off > (src.size : Int)
  · obtain ⟨g1, g2, g3⟩ := hg
    have hv : vdS (src.size : Int) l = 0 := by
      unfold invS at g1
      split at g1
      · assumption
      · exact g1
    have hV := (vdS_zero (by omega) hs).1 hv
    have ei : (invS src l).1 = invP src 0 l := by unfold invS; rw [if_pos hv]
    have hsrc : src.size ≤ 2000 := by have := hV.src; omega
    have em := mapS_eq hs (by omega) g2
    obtain ⟨_, hoff0, _⟩ := mapS_zero g2
    obtain ⟨K4, h4⟩ := irt_l0 l off right (invS src l).1 (mapS l off right).1 (fun hf => by
      rw [ei, em]
      obtain ⟨hb1, hb2⟩ := mapP_back src off right l (-1) 0 (by omega) (by omega) hV.ok hf
      have hup := mapP_upper off (src.size : Int) right (by omega) hV.ok
      have hIV := inv_valid hV
      have hIs := inv_size src hsrc l 0
      have hm0 : 0 ≤ mapP off right 0 l := by omega
      have hmap : mapS (invP src 0 l) (mapP off right 0 l) right = (off, 0) := by
        unfold mapS
        have hvs : vS (invP src 0 l) = 0 := by
          unfold vS
          have := hIV.len
          rw [if_neg (by omega), if_pos (okL_from _ _ _ hIV.ok)]
        rw [if_pos hvs, if_neg (by omega)]
        rw [mapW_eq _ right hm0 (by have := hIV.src; omega) (invP src 0 l) (-1) 0 50 (by omega) (okL_from _ _ _ hIV.ok) hIs hIV.len (by omega) (by simp) (by simp)]
        have hb2' : mapP (mapP off right 0 l) right 0 (invP src 0 l) = off := by simpa using hb2
        rw [hb2']
      have := Map_ev (invP src 0 l) (mapP off right 0 l) right (by have := hIV.len; omega)
      rw [hmap] at this
      exact this) l [] (by simp) (by simp) hl
    refine ⟨K0 + K1 + K2 + K3 + K4 + 1, fun k hk => ?_⟩
    obtain ⟨k, rfl⟩ : ∃ m, k = m + 1 := ⟨k - 1, by omega⟩
    dsimp only at h0 h1 h2 h3 h4 ⊢
    rw [h0 (k + 1) (by omega)]
    simp only [Option.bind_some, if_true]
    rw [h1 (k + 1) (by omega), h2 (k + 1) (by omega)]
    simp only [Option.bind_some]
    rw [if_pos g1, if_pos g2, decide_eq_false g3]
    simp only [glossatorkeep4_AnchorInvertRoundTrip.j0]
    have := h4 k (by omega)
    simpa using this
  · refine ⟨K0 + K1 + K2 + K3, fun k hk => ?_⟩
    dsimp only at h0 h1 h2 h3 ⊢
    have h3' := h3 k (by omega)
    rw [h0 k (by omega)]
    simp only [Option.bind_some, if_true]
    rw [h1 k (by omega), h2 k (by omega)]
    simp only [Option.bind_some]
    by_cases g1 : (invS src l).2 = 0
    · rw [if_pos g1]
      by_cases g2 : (mapS l off right).2 = 0
      · rw [if_pos g2, decide_eq_true (show off > (src.size : Int) from Classical.byContradiction fun g3 => hg ⟨g1, g2, g3⟩)]
        exact h3'
      · rw [if_neg g2]; exact h3'
    · rw [if_neg g1]; exact h3'
end Go.Proofs.Ytalhieinohkihaa.PA
