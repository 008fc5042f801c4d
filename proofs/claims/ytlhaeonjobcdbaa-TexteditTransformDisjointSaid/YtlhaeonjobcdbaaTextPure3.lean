/- The examples, EqualEdits on equal lists, and what the inverse of a list of edits does: in plain Lean. Conditions: an argument's sizes. -/
import Derived.Test.YtlhaeonjobcdbaaTextPure2
import Derived.Test.YtlhaeonjobcdbaaPAx15
namespace Go.Proofs.Ytlhaeonjobcdbaa.PA
open Go.RowKit Go.Proofs.YtlhaeonjobcdbaaW.PrintWords Go.Proofs.YtlhaeonjobcdbaaW.PrintLast
set_option linter.unusedVariables false

/-- the examples hold: by running them -/
theorem tex_ev : Ev (fun k => glossatorkeep4_texteditExamples.f k) true := by
  refine Ev.of (k := 60) (fun k => glossatorkeep4_texteditExamples.mono k) ?_
  decide +kernel
theorem eq_loop : ∀ (suf pre : List S43), (pre ++ suf).length < 4611686018427387904 → ∀ k, suf.length + 1 ≤ k → glossatorref4_EqualEdits.l0 k (pre ++ suf) (pre ++ suf) (pre.length : Int) = some true := by
  intro suf
  induction suf with
  | nil =>
    intro pre hl k hk
    obtain ⟨k, rfl⟩ : ∃ m, k = m + 1 := ⟨k - 1, by simp only [List.length_nil] at hk; omega⟩
    simp only [glossatorref4_EqualEdits.l0, List.append_nil]
    rw [if_neg (by omega)]
  | cons e suf ih =>
    intro pre hl k hk
    obtain ⟨k, rfl⟩ : ∃ m, k = m + 1 := ⟨k - 1, by omega⟩
    have hlen := len_mid pre suf e
    have hl2 := hl
    rw [List.length_append, List.length_cons] at hl2
    simp only [glossatorref4_EqualEdits.l0]
    rw [if_pos hlen, if_pos (by omega), if_pos hlen, if_neg (by simp), w64 (by omega) (by omega), app_snoc, ← len_snoc pre suf e]
    · exact ih (pre ++ [e]) (by rw [← app_snoc]; exact hl) k (by simp only [List.length_cons] at hk; omega)
    all_goals exact suf
theorem EqualEdits_ev (l : List S43) (hl : l.length < 4611686018427387904) : Ev (fun k => glossatorref4_EqualEdits.f k l l) true := by
  refine ⟨l.length + 1, fun k hk => ?_⟩
  dsimp only
  unfold glossatorref4_EqualEdits.f
  rw [if_pos rfl]
  exact eq_loop l [] (by simpa using hl) k hk

theorem bs_inj {x y : ByteArray} (h : bs x = bs y) : x = y := by
  cases x; cases y
  unfold bs at h
  simp only at h
  rw [Array.toList_inj.1 h]
theorem mk_bs (x : ByteArray) : (⟨(bs x).toArray⟩ : ByteArray) = x := bs_inj rfl
/-- The inverse, on the result, gives the source back. -/
theorem inv_app (src : ByteArray) : ∀ (l : List S43) (p off sh : Int) (pre : List UInt8), 0 ≤ off → off ≤ p + 1 → okL (src.size : Int) p l = true → (pre.length : Int) = off + sh → off ≤ src.size →
    app id (pre ++ app id (bs src) off l) (off + sh) (invP src sh l) = (bs src).drop off.toNat
  | [], p, off, sh, pre, h0, hp, _, hpre, hL => by
    simp only [app, invP]
    rw [← hpre, Int.toNat_natCast, List.drop_left]
  | e :: es, p, off, sh, pre, h0, hp, hok, hpre, hL => by
    rw [okL_cons] at hok
    obtain ⟨o1, o2, o3, o4⟩ := hok
    have ih := inv_app src es e.f1 e.f1 (sh + ((e.f2.size : Int) - (e.f1 - e.f0))) (pre ++ (((bs src).take e.f0.toNat).drop off.toNat ++ bs e.f2)) (by omega) (by omega) o4 (by
      simp only [List.length_append, List.length_drop, List.length_take, bs_length]; omega) (by omega)
    have hseg : ((((bs src).take e.f0.toNat).drop off.toNat).length : Int) = e.f0 - off := by
      simp only [List.length_drop, List.length_take, bs_length]; omega
    simp only [app, invP, List.map_id]
    rw [show e.f1 + (sh + ((e.f2.size : Int) - (e.f1 - e.f0))) = e.f0 + sh + (e.f2.size : Int) by omega] at ih
    have hre : pre ++ (((bs src).take e.f0.toNat).drop off.toNat ++ (bs e.f2 ++ app id (bs src) e.f1 es)) = (pre ++ (((bs src).take e.f0.toNat).drop off.toNat ++ bs e.f2)) ++ app id (bs src) e.f1 es := by simp
    rw [hre, ih, bs_extract]
    have h1 : (off + sh).toNat = pre.length := by omega
    have h2 : (e.f0 + sh).toNat = (pre ++ ((bs src).take e.f0.toNat).drop off.toNat).length := by
      rw [List.length_append]; omega
    have hre2 : (pre ++ (((bs src).take e.f0.toNat).drop off.toNat ++ bs e.f2)) ++ app id (bs src) e.f1 es = (pre ++ ((bs src).take e.f0.toNat).drop off.toNat) ++ (bs e.f2 ++ app id (bs src) e.f1 es) := by simp
    rw [h1, h2, hre2, List.take_left, List.drop_left]
    have h3 : ∀ (T : List UInt8) (a b : Nat), a ≤ b → (T.take b).drop a ++ T.drop b = T.drop a := by
      intro T a b hab
      have := List.take_append_drop (b - a) (T.drop a)
      rw [List.drop_drop, show a + (b - a) = b by omega] at this
      rw [List.drop_take]
      exact this
    rw [h3 _ _ _ (by omega), h3 _ _ _ (by omega)]
/-- The inverse of the inverse is the list. -/
theorem inv_inv (src res : ByteArray) : ∀ (l : List S43) (p off sh : Int) (pre : List UInt8), 0 ≤ off → off ≤ p + 1 → okL (src.size : Int) p l = true → (pre.length : Int) = off + sh → off ≤ src.size → bs res = pre ++ app id (bs src) off l →
    invP res (-sh) (invP src sh l) = l
  | [], p, off, sh, pre, h0, hp, _, hpre, hL, hres => rfl
  | e :: es, p, off, sh, pre, h0, hp, hok, hpre, hL, hres => by
    rw [okL_cons] at hok
    obtain ⟨o1, o2, o3, o4⟩ := hok
    have hseg : ((((bs src).take e.f0.toNat).drop off.toNat).length : Int) = e.f0 - off := by
      simp only [List.length_drop, List.length_take, bs_length]; omega
    simp only [app, List.map_id] at hres
    have ih := inv_inv src res es e.f1 e.f1 (sh + ((e.f2.size : Int) - (e.f1 - e.f0))) (pre ++ (((bs src).take e.f0.toNat).drop off.toNat ++ bs e.f2)) (by omega) (by omega) o4 (by
      simp only [List.length_append, List.length_drop, List.length_take, bs_length]; omega) (by omega) (by rw [hres]; simp)
    have hx : (res.extract (e.f0 + sh).toNat (e.f0 + sh + (e.f2.size : Int)).toNat) = e.f2 := by
      refine bs_inj ?_
      rw [bs_extract, hres]
      have h2 : (e.f0 + sh).toNat = (pre ++ ((bs src).take e.f0.toNat).drop off.toNat).length := by
        rw [List.length_append]; omega
      have h3 : (e.f0 + sh + (e.f2.size : Int)).toNat = ((pre ++ ((bs src).take e.f0.toNat).drop off.toNat) ++ bs e.f2).length := by
        rw [List.length_append, List.length_append, bs_length]; omega
      rw [h3, h2, ← List.append_assoc, ← List.append_assoc, List.take_left, List.drop_left]
    simp only [invP]
    rw [extract_size src e.f0 e.f1 (by omega) (by omega) (by omega), show -sh + (e.f1 - e.f0 - (e.f0 + sh + (e.f2.size : Int) - (e.f0 + sh))) = -(sh + ((e.f2.size : Int) - (e.f1 - e.f0))) by omega, ih, hx, show e.f0 + sh + -sh = e.f0 by omega, show e.f0 + (e.f1 - e.f0) = e.f1 by omega]
theorem midB_len {src : ByteArray} {l : List S43} (h : Valid (src.size : Int) l) : ((midB src l).size : Int) = (src.size : Int) + total l := by
  have := app_length id (bs src) l 0 (-1) (by rw [bs_length]; exact h.ok) (by omega) (by omega) (by omega)
  rw [bs_length] at this
  rw [midB_size]
  omega
theorem applyS_valid {src : ByteArray} {l : List S43} (hs : ∀ e ∈ l, e.f2.size ≤ 140737488351232) (h : Valid (src.size : Int) l) : applyS src l = (midB src l, 0) := by
  unfold applyS
  rw [if_pos ((vdS_zero (by omega) hs).2 h)]
  rfl
theorem applyS_err {src : ByteArray} {l : List S43} (h : ¬ (applyS src l).2 = 0) : vdS (src.size : Int) l ≠ 0 ∧ applyS src l = (⟨#[]⟩, vdS (src.size : Int) l) := by
  unfold applyS at h ⊢
  by_cases hv : vdS (src.size : Int) l = 0
  · rw [if_pos hv] at h
    exact absurd rfl h
  · rw [if_neg hv]
    exact ⟨hv, rfl⟩
theorem composeS_err {src : ByteArray} {l1 l2 : List S43} (h : ¬ (composeS src l1 l2).2 = 0) : (composeS src l1 l2).1 = [] := by
  unfold composeS at h ⊢
  by_cases g1 : vdS (src.size : Int) l1 = 0
  · rw [if_pos g1] at h ⊢
    by_cases g2 : vdS ((midB src l1).size : Int) l2 = 0
    · rw [if_pos g2] at h ⊢
      unfold canErr at h
      unfold canOut
      by_cases hc : (composeC src l1 l2).length > 50
      · rw [if_pos hc]
      · rw [if_neg hc] at h; exact absurd rfl h
    · rw [if_neg g2]
  · rw [if_neg g1]
end Go.Proofs.Ytlhaeonjobcdbaa.PA
